/- The plain law of CopiesRuns: the clean program runs as the program does. -/
import Derived.Test.YthhjlbflpjhahaaGreatDoorCpyEZ
import Derived.Test.YthhjlbflpjhahaaGreatDoorCqQZ
import Derived.Test.YthhjlbflpjhahaaGreatDoorRunBZ
import Derived.Test.YthhjlbflpjhahaaGreatDoorCrQZ
import Derived.Test.YthhjlbflpjhahaaGreatDoorKeepQZ
import Derived.Test.YthhjlbflpjhahaaGreatDoorSLwZ
import Derived.Test.YthhjlbflpjhahaaGreatDoorUniQZ
import Derived.Test.YthhjlbflpjhahaaGreatDoorGraphZ
import Derived.Test.YthhjlbflpjhahaaGreatDoorCards
import Derived.ProofKit
namespace Go.Proofs.YthhjlbflpjhahaaGreatDoor
open Go.RowKit
set_option maxRecDepth 100000
def rtL(m:Int→Int)(F:PFunc):List Bool:=(List.range F.vars.length).map fun v:Nat=>decide (m (v:Int)=(v:Int))
def rtP(m:Int→Int)(p:PPhi):Bool:=decide (m p.dst=p.dst)
def rtI(m:Int→Int)(x:PInst):Bool:=decide (m x.dst=x.dst)
section
variable {F:PFunc} {m:Int→Int} {r:List Int} {I:PIn} {s s0:RSt} {v:Int}
theorem YgI(hv:inV F v):(rtL m F).getD v.toNat false=decide (m v=v):=by
 have h0:=hv.1;have h1:=hv.2;have h2:v.toNat<F.vars.length:=by omega
 have h3:((v.toNat:Nat):Int)=v:=by omega
 simp[rtL,List.getD_eq_getElem?_getD,h2,h3]
theorem Ye8:rpF m F=gF (fun _=>true) (fun _=>true) m F:=by
 unfold rpF gF;congr 1;refine List.map_congr_left fun b _=>?_
 unfold rpB gB;rw[List.filter_eq_self.2 (fun _ _=>rfl),List.filter_eq_self.2 (fun _ _=>rfl)]
theorem Yi5:ShF (rtP m) (rtI m) (fun x=>x) (rpF m F)=clF m F:=by
 unfold ShF clF rpF;congr 1;rw[List.map_map];refine List.map_congr_left fun b _=>?_
 show Yeg (rtP m) (rtI m) (fun x=>x) (rpB m b)=clB m b;unfold Yeg rpB clB;rw[List.map_id',List.filter_map,List.filter_map];rfl
theorem Yi6:∀{bs:List PBlock},Yo (bs.map (rpB m))=Yo bs
 |[]=>rfl
 |b::bs=>by
  have ih:=Yi6 (bs:=bs);simp only[List.map_cons,Yo,rpB,List.length_map]at *;rw[ih]
theorem Yi7(h:RInv F s):RInv (rpF m F) s:=
 ⟨h.li,h.lb,h.la,by rw[YnB];exact h.blk,by rw[Ygt h.blk];simpa[rpB]using h.pc,h.arrs,h.ints,h.rows,h.ll,h.lr,h.lt,h.lc⟩
theorem Yi8(h:Ybf F):Ybf (rpF m F):=by
 intro b hb x hx;obtain⟨a,ha,rfl⟩:=List.mem_map.1 hb;obtain⟨y,hy,rfl⟩:=List.mem_map.1 hx;exact h a ha y hy
theorem Yi9(h:Ybf F):Ybf (clF m F):=by
 intro b hb x hx;obtain⟨a,ha,rfl⟩:=List.mem_map.1 hb;obtain⟨y,hy,rfl⟩:=List.mem_map.1 hx;exact h a ha y (List.mem_filter.1 hy).1
theorem Yof(hT:Yd F=true){b:PBlock}(hb:b∈F.blocks){x:PInst}(hx:x∈b.insts){a:Int}(ha:a∈x.args):inV F a:=by
 obtain⟨i,hi,rfl⟩:=YaZ hb;obtain⟨k,hk,rfl⟩:=Yb9 hx;obtain⟨n,hn,rfl⟩:=List.getElem_of_mem ha;have h3:=(YcD hT hi hk).2 n hn;simp only[ith,List.getD,hn,List.getElem?_eq_getElem,Option.getD_some]at h3;exact h3
theorem YgJ(hC:CpI F (rkV F) m)(hv:inV F v):(rtL m F).getD (m v).toNat false=true:=by
 rw[YgI (hC.rg v hv),hC.idem];exact decide_eq_true rfl
theorem Yja(S:Sgl F)(hC:CpI F (rkV F) m):Yeh (rtL m F) (rpF m F) (rtP m) (rtI m) (fun x=>x):=by
 have H:=S.cpH;refine⟨fun b hb p hp h=>?_,fun b hb x hx h=>?_,fun _=>⟨rfl,rfl,rfl⟩,fun _ _=>rfl,fun b hb x hx _ v hv=>?_,fun b hb p hp _ v hv=>?_,fun b hb hk=>?_⟩
 · obtain⟨a,ha,rfl⟩:=List.mem_map.1 hb
   obtain⟨q,hq,rfl⟩:=List.mem_map.1 hp;have h1:=(H.g.ph a ha q hq).1;show(rtL m F).getD q.dst.toNat false=false;rw[YgI h1];exact h
 · obtain⟨a,ha,rfl⟩:=List.mem_map.1 hb
   obtain⟨y,hy,rfl⟩:=List.mem_map.1 hx;have hne:m y.dst≠y.dst:=of_decide_eq_false h;obtain⟨c,hc,⟨j,hj,hcp,e⟩|⟨p,hp,e⟩⟩:=hC.made _ hne
   · have hv:=(H.g.cp c hc j hj hcp).1
     have h2:=H.i c hc j hj a ha y hy hv e;subst h2;have ho:j.op=1:=of_decide_eq_true hcp;refine⟨?_,?_⟩
     · show Ydu j.op.toNat=false
       rw[ho];rfl
     · show(rtL m F).getD j.dst.toNat false=false
       rw[YgI hv];exact decide_eq_false hne
   · have hv:=(H.g.ph c hc p hp).1
     rw[e]at hv;exact absurd e (H.ip a ha y hy c hc p hp hv)
 · obtain⟨a,ha,rfl⟩:=List.mem_map.1 hb
   obtain⟨y,hy,rfl⟩:=List.mem_map.1 hx;obtain⟨u,hu,rfl⟩:=List.mem_map.1 hv;exact YgJ hC (Yof S.T ha hy hu)
 · obtain⟨a,ha,rfl⟩:=List.mem_map.1 hb
   obtain⟨q,hq,rfl⟩:=List.mem_map.1 hp;obtain⟨u,hu,rfl⟩:=List.mem_map.1 hv;exact YgJ hC ((H.g.ph a ha q hq).2 u hu)
 · obtain⟨a,ha,rfl⟩:=List.mem_map.1 hb
   have hk2:a.term.kind≠0:=by
    have:(clT m a.term).kind≠0:=hk
    rwa [Ycd.1]at this
   show(rtL m F).getD (clT m a.term).var.toNat false=true;rw[Ygz hk2];obtain⟨i,hi,rfl⟩:=YaZ ha;exact YgJ hC (Ydm S.T hi hk2)
theorem Yog(S:Sgl F)(hC:CpI F (rkV F) m):Yd (clF m F)=true:=by
 rw[YiG];exact YgA (mOk S.T hC) S.T
theorem Yoh(h:YF F=true):YF (clF m F)=true:=by
 rw[YiG];exact YnV h
theorem Yjb:Sim (rpF m F) (rtL m F) (rtI m) (YR F I) (YR F I) 0 0:=⟨.refl,rfl,by show 0=_;rw[show(YR F I).pc=0 from rfl];rfl,rfl,rfl,Nr _,Nz _,fun _=>rfl⟩
theorem Yjc:YbW (YR F I):=fun _=>rfl
section
variable (S:Sgl F) (hC:CpI F (rkV F) m) (hN:Ybf F) (hI:RInv F (YR F I))
include S hC hN hI
theorem Yjd(K:Nat):Yf (rpF m F) K (YR F I)=Yf F K (YR F I):=Yiz S hC S.cpH hN K _ hI (RtI.start S hC rfl rfl)
theorem Yoi{K M:Nat}(hK:K<4611686018427387904)(hM:K≤M)(he:(Yf F K (YR F I)).ending≠3):Ycp (Yf F K (YR F I)) (Yf (clF m F) M (YR F I))∧(Yf (clF m F) M (YR F I)).steps≤(Yf F K (YR F I)).steps:=by
 have hT:Yd (rpF m F)=true:=by rw[Ye8];exact YgA (mOk S.T hC) S.T
 have hJ:Y1 (rpF m F)=true:=by rw[Ye8];exact YiO S.J
 have h1:=Yjd S hC hN hI K;have h2:=Ynw (Yja S hC) hT hJ (Yi8 hN) (Yi7 hI) Yjb Yjc (K:=K) (M:=M) hK hM;rw[h1,Yi5]at h2;exact h2 he
theorem Yoj{n M:Nat}(hM:M=(1+Yo F.blocks)*(n+1))(hB:M<4611686018427387904)(he:(Yf (clF m F) n (YR F I)).ending≠3):Ycp (Yf F M (YR F I)) (Yf (clF m F) n (YR F I)):=by
 have hT:Yd (rpF m F)=true:=by rw[Ye8];exact YgA (mOk S.T hC) S.T
 have hJ:Y1 (rpF m F)=true:=by rw[Ye8];exact YiO S.J
 have h1:=Yjd S hC hN hI M;have h3:Yo (rpF m F).blocks=Yo F.blocks:=Yi6;have h2:=Ynx (Yja S hC) hT hJ (Yi8 hN) (Yi7 hI) Yjb Yjc (n:=n) (M:=M) (by rw[h3];exact hM) hB;rw[h1,Yi5]at h2;exact h2 he
end
end
theorem YpN{w w':World}{B B':Nat}{v:Value}{I:PIn}(h:InV w B v I)(hk:Kept B w w')(hB:B≤B'):InV w' B' v I:=by
 obtain⟨v0,v1,rfl,h0,h1⟩:=h;refine⟨v0,v1,rfl,h0.keep hB fun b o x hb hx=>⟨(hk _ _ hb).trans hx.1,(hk _ _ hb).trans hx.2.1,(hk _ _ hb).trans hx.2.2⟩,h1.keep hB fun b o x hb hx=>?_⟩;obtain⟨v,e1,e2⟩:=hx;exact⟨v,(hk _ _ hb).trans e1,e2.keep hk hB⟩
theorem Yfg{F:PFunc}(hT:Yd F=true)(hN:Ybf F):∀(k:Nat) (s:RSt),RInv F s→RInv F (Yf F k s)
 |0,_,h=>h
 |k+1,s,h=>by
  rw[Yf];split
  · exact h
  · exact Yfg hT hN k _ (h.step hT hN)
theorem YpO(n:Nat)(h:n≤1024):wrap64 (1+(n:Int))=((1+n:Nat):Int):=by unfold wrap64;omega
theorem YpP(n:Nat):Int.tmod (n:Int) 201=((n%201:Nat):Int):=by
 rw[Int.tmod_eq_emod_of_nonneg (Int.natCast_nonneg n)];omega
set_option maxHeartbeats 16000000 in
theorem YpQ{W:World}{fv iv:Value}{F:PFunc}{I:PIn}{nf:Nat}(hU:Uni W)(hF:FnV W W.heap.size fv F)(hN:Ybf F)(hI:InV W W.heap.size iv I)(hIn:Yem I)(_hn8:nf<256) :
 Calls Tryz.prog 8 #[fv,iv,.int .u8 nf] W fun e w'=>e=.returned (.bool true)∧Below W.heap.size W w':=by
 have hlv:=fun(w:World) (h:Below W.heap.size W w)=>Yjw hU h
 have hty:=fun(w:World) (h:Below W.heap.size W w)=>YjH hU hF h
 have hsm:=fun(w:World) (h:Below W.heap.size W w)=>YiZ hI h
 obtain⟨w,rfl⟩:∃w:World,w=W:=⟨_,rfl⟩;obtain⟨A0,c0,A1,c1,A2,c2,rfl,l0,l1,l2,-,-,-,r0,r1,r2⟩:=id hF.open_;obtain⟨B0,d0,B1,d1,rfl,m0,m1,k0,k1,q0,q1⟩:=id hI.open_;unfold Len at *;clear r0 r1 r2 q0 q1;have hx0:Below w.heap.size w ((w.alloc (.cells #[.slice A0 F.vars.length c0,.slice A1 F.params.length c1,.slice A2 F.blocks.length c2] 26)).alloc (.cells #[.slice B0 I.args.length d0,.slice B1 I.rows.length d1] 38)):=BL;cases hx:(Ybp F&&YaJ F)
 · rw[hx]at hty
   clear hx hF hI hN hIn hsm;go_enter Tryz.func8,Tryz.ntmps8;go_wp2_with fail;refine(hlv _ hx0).mono ?_;rintro e w1 ⟨rfl,hb1⟩;have hX1:InBox w1 w.heap.size _ _ _ _ _:=InBox.of (by simpa using hb1);have hB1:Below w.heap.size w w1:=hx0.trans (hb1.mono ZX);obtain⟨e0,e1,g0,g1,g2,g3,g4⟩:=hX1.all;go_wp2_with fail;refine(hty _ hB1).mono ?_;rintro e w2 ⟨rfl,hb2⟩;go_wp2_with fail;refine(hlv _ (hB1.trans (hb2.mono hB1.size))).mono ?_;rintro e w3 ⟨rfl,hb3⟩;go_wp2;go_ret;exact⟨rfl,hB1.trans ((hb2.trans (hb3.mono hb2.size)).mono hB1.size)⟩
 rw[hx]at hty;have hx1:Ybp F=true∧YaJ F=true:=by simpa using hx
 have hx2:YF F=true∧Yd F=true:=by
  have:=hx1.1;unfold Ybp at this;simpa using this
 have hS:=Ydo hx2.1;have hT:=hx2.2;obtain⟨n1,n2⟩:=Yax (Yz hT);have hpv:F.params.length≤F.vars.length:=by
  have:=Yz hT;unfold Yk at this;simp only[Bool.and_eq_true]at this;exact Yi2 this.1.1
 have hv512:F.vars.length≤512:=by
  have:=Yz hT;unfold Yk at this;simp only[Bool.and_eq_true]at this;exact Yi4 this.1.1
 have hrt:=fun(w':World) (h:Below w.heap.size w w')=>Yi0 hF hI h hpv
 have hB:=Ye4 hx2.1;have hRS:Yak F=true:=by rw[Yak,hT,hx1.2];rfl
 have HSW:=Lh (fun(w':World) (h:Below w.heap.size w w')=>Yjt hU hF h hS hB hRS ZO);have HFEW:=Lh hx2.1;have HSG:=Lh (Sgl.of hT hx1.2);have HFV:=Lh hF;have HRF:=Lh (fun(w':World) (h:Below w.heap.size w w') (fuel:Nat) (hR:RightF F I) (hf:fuel≤1073741824)=>YjA hF hI h hT hS hN hIn hR hpv hv512 hf);have HU:=Lh hU;have HI:=Lh hI;have HBD:=Lh hB;have HPV:=Lh hpv;have HNN:=Lh hN;have HT:=Lh hT;have HIn:=Lh hIn;clear hx hx1 hx2 hF hI hN hIn hS hT hpv hB hRS;go_enter Tryz.func8,Tryz.ntmps8;go_wp2_with fail;refine(hlv _ hx0).mono ?_;rintro e w1 ⟨rfl,hb1⟩;have hX1:InBox w1 w.heap.size _ _ _ _ _:=InBox.of (by simpa using hb1);have hB1:Below w.heap.size w w1:=hx0.trans (hb1.mono ZX);obtain⟨e0,e1,g0,g1,g2,g3,g4⟩:=hX1.all;go_wp2_with fail;refine(hty _ hB1).mono ?_;rintro e w2 ⟨rfl,hb2⟩;have hX2:=hX1.below hb2 hX1.lt;have hB2:=hB1.trans (hb2.mono hB1.size);clear e0 e1 g0 g1 g2 g3 g4;obtain⟨e0,e1,g0,g1,g2,g3,g4⟩:=hX2.all;go_wp2_with fail;refine(hsm _ hB2).mono ?_;rintro e w3 ⟨⟨b,rfl⟩,hb3⟩;have hX3:=hX2.below hb3 hX2.lt;have hB3:=hB2.trans (hb3.mono hB2.size);clear e0 e1 g0 g1 g2 g3 g4 hb1 hb2 hb3 hX1 hX2 hB1 hB2 hx0;cases b
 · as_aux_lemma=>
   go_wp2_with fail;refine(hlv _ hB3).mono ?_;rintro e w4 ⟨rfl,hb4⟩;go_wp2;go_ret;exact⟨rfl,hB3.trans (hb4.mono hB3.size)⟩
 obtain⟨e0,e1,g0,g1,g2,g3,g4⟩:=hX3.all;go_wp2_with fail;refine(hrt _ hB3).mono ?_;rintro e w4 ⟨⟨r,rfl,hr⟩,hb4⟩;have hX4:=hX3.below hb4 hX3.lt;have hB4:=hB3.trans (hb4.mono hB3.size);clear e0 e1 g0 g1 g2 g3 g4 hb4 hX3 hB3
 by_cases hr0:r=0
 · as_aux_lemma=>
   have HR:=Lh (hr hr0);subst hr0;clear hr hlv hty hsm hrt;obtain⟨e0,e1,g0,g1,g2,g3,g4⟩:=hX4.all;go_wp2_with fail;refine(HSW.out _ hB4).mono ?_;rintro e w5 ⟨⟨gv,m,r5,rfl,hG,hgr⟩,hb5⟩;have HGC:=Lh hgr.c;clear hgr;obtain⟨C0,k3,C1,k4,C2,k5,rfl,-⟩:=id hG.open_;have v0:Hid ((clF m F).vars.length=F.vars.length):=rfl;have v1:Hid ((clF m F).params.length=F.params.length):=rfl;have v2:Hid ((clF m F).blocks.length=F.blocks.length):=(show(clF m F).blocks.length=F.blocks.length by simp[clF]);have hX5:=hX4.below hb5 hX4.lt;have hB5:=hB4.trans (hb5.mono hB4.size);have hT2:=Yog HSG.out HGC.out;have hS2:=Ydo (Yoh (m:=m) HFEW.out);have hI5:InV w5 w5.heap.size (.agg #[.slice B0 I.args.length d0,.slice B1 I.rows.length d1]) I:=YpN HI.out (Kept.of_below hB5) hB5.size;have hR2:RightF (clF m F) I:=by
    obtain⟨a,b,c,d⟩:=HR.out;exact⟨a,b,c,d⟩
   have hinv:=Ye7 HT.out HR.out HIn.out;have hinv2:=Ye7 hT2 hR2 HIn.out;have HGR:Hid (RunC w5 (.agg #[.slice C0 F.vars.length k3,.slice C1 F.params.length k4,.slice C2 F.blocks.length k5]) (.agg #[.slice B0 I.args.length d0,.slice B1 I.rows.length d1]) (clF m F) (YR F I) 1073741824):=fun w' h k hk=>by
    have:=YjA (fuel:=k) hG hI5 h hT2 hS2 (Yi9 HNN.out) HIn.out hR2 HPV.out hv512 hk;rw[v0.out,v1.out,v2.out]at this;exact this
   have HFR:Hid (RunC w (.agg #[.slice A0 F.vars.length c0,.slice A1 F.params.length c1,.slice A2 F.blocks.length c2]) (.agg #[.slice B0 I.args.length d0,.slice B1 I.rows.length d1]) F (YR F I) 1073741824):=fun w' h k hk=>HRF.out w' h k HR.out hk
   have HTY:=Lh (fun(w':World) (h:Below w5.heap.size w5 w')=>Yh5 (HU.out.below hB5) hG h hS2);rw[hT2,v0.out,v1.out,v2.out]at HTY;obtain⟨kk,hkk⟩:∃kk:Nat,kk=nf%201:=⟨_,rfl⟩;have hmod3:=YpP nf;rw[← hkk]at hmod3;have hk201:kk<201:=by rw[hkk];exact Nat.mod_lt _ ZD
   have HKL:=Lh (show kk≤1073741824 from Nat.le_of_lt (Nat.lt_trans hk201 ZD));have hsum:Yo F.blocks≤1024:=by
    have:=Yz HT.out;unfold Yk at this;simp only[Bool.and_eq_true,decide_eq_true_eq]at this;exact this.2
   have hbk:(1+Yo F.blocks)*(kk+1)≤(1+1024)*201:=Nat.mul_le_mul (Nat.add_le_add_left hsum 1) hk201;have hfw:=fun(M:Nat) (hM:kk≤M)=>Yoi HSG.out HGC.out HNN.out hinv (K:=kk) (M:=M) (Nat.lt_trans hk201 ZD) hM
   have hbw:=Yoj HSG.out HGC.out HNN.out hinv (n:=kk) (M:=(1+Yo F.blocks)*(kk+1)) rfl (Nat.lt_of_le_of_lt hbk ZD);obtain⟨sb,hsb⟩:∃sb:Nat,sb=Yo F.blocks:=⟨_,rfl⟩;obtain⟨bk,hbk2⟩:∃bk:Int,bk=((1+Yo F.blocks:Nat):Int):=⟨_,rfl⟩;have hw1:wrap64 (1+(sb:Int))=bk:=by rw[hsb,hbk2];exact YpO _ hsum
   have hKE:Hid (∀w':World,Below w5.heap.size w5 w'→Calls Tryz.prog 26 #[.agg #[.slice A0 F.vars.length c0,.slice A1 F.params.length c1,.slice A2 F.blocks.length c2],.agg #[.slice C0 F.vars.length k3,.slice C1 F.params.length k4,.slice C2 F.blocks.length k5],.agg #[.slice B0 I.args.length d0,.slice B1 I.rows.length d1],.int .i64 (kk:Int),.int .i64 1,.int .i64 bk,.bool true] w' fun e w''=>e=.returned (.bool true)∧Below w'.heap.size w' w''):=fun w' h=>by
    rw[hbk2];exact Ypt (n:=kk) (forth:=1) (back:=1+Yo F.blocks) (RunC.later HFR.out hB5) HGR.out h (Nr _) HKL.out (by rw[Nat.one_mul];exact Nat.le_trans hk201 ZD) (Nat.le_trans hbk ZD) (Nat.le_trans hk201 ZD) (fun k=>(Yfg HT.out HNN.out k _ hinv).lt) (fun k=>(Yfg hT2 (Yi9 HNN.out) k _ hinv2).lt) (fun he=>(hfw (1*(kk+1)) (by rw[Nat.one_mul];exact Nat.le_succ _) he).1) hbw
   have HIS:=Lh (fun(w':World) (h:Below w5.heap.size w5 w')=>(by rw[hsb];exact Ypr (HFV.out.keep (Kept.of_below hB5) hB5.size) h hsum:Calls Tryz.prog 32 #[.agg #[.slice A0 F.vars.length c0,.slice A1 F.params.length c1,.slice A2 F.blocks.length c2]] w' fun e w''=>e=.returned (.int .i64 (sb:Int))∧Below w'.heap.size w' w''));obtain⟨S1,hS1⟩:∃S1,S1=Yf F kk (YR F I):=⟨_,rfl⟩;obtain⟨S2,hS2'⟩:∃S2,S2=Yf (clF m F) kk (YR F I):=⟨_,rfl⟩;have HFW:=Lh (hfw kk (Nr _));unfold Hid at HFW;rw[← hS1,← hS2']at HFW;replace HFW:=Lh HFW;have HL1:=Lh (show S1.trace.length≤4096 by rw[hS1];exact(Yfg HT.out HNN.out kk _ hinv).lt);have HS1:=Lh hS1;have HS2:=Lh hS2';have HSB:=Lh hsum;obtain⟨w6,hw6⟩:∃w6,w6=w5.alloc (.cells #[.slice C0 F.vars.length k3,.slice C1 F.params.length k4,.slice C2 F.blocks.length k5] 26):=⟨_,rfl⟩;have HW6:=Lh hw6;have hg6:BoxAt w6 w5.heap.size #[.slice C0 F.vars.length k3,.slice C1 F.params.length k4,.slice C2 F.blocks.length k5] 26:=by rw[hw6];exact BoxAt.new _ _ _
   have hb6:Below w5.heap.size w5 w6:=by rw[hw6];exact YcJ _ _
   have HB5:=Lh hB5;have HX5:=Lh hX5;have HG6:=Lh hg6;have HB6:=Lh hb6;clear e0 e1 g0 g1 g2 g3 g4 hb5 hX4 hB4 HSW hG hT2 hS2 hI5 hR2 hinv hinv2 hkk hfw hbw hS1 hS2' hw6 hg6 hb6 hbk hsum hsb hbk2;have HW1:=Lh hw1;clear hw1;obtain⟨e0,e1,g0,g1,g2,g3,g4⟩:=hX5.all;clear hX5 hB5;rw[v0.out,v1.out,v2.out];clear v0 v1 v2
   go_upto_region 4 with fail
   rw[← HW6.out];have hX6:=HX5.out.below HB6.out HX5.out.lt;clear e0 e1 g0 g1 g2 g3 g4 HX5;obtain⟨e0,e1,g0,g1,g2,g3,g4⟩:=hX6.all;have y0:=HG6.out.cell 0;have y1:=HG6.out.cell 1;have y2:=HG6.out.cell 2;have yl:=HG6.out.lt;simp at y0 y1 y2;go_wp2_with fail;refine(HTY.out _ HB6.out).mono ?_;rintro e w7 ⟨rfl,hb7⟩;have HX7:=Lh (hX6.below hb7 hX6.lt);have HG7:=Lh (HG6.out.below hb7 HG6.out.lt);have HB57:=Lh (HB6.out.trans (hb7.mono HB6.out.size));have HB7:=Lh (HB5.out.trans (HB57.out.mono HB5.out.size));clear e0 e1 g0 g1 g2 g3 g4 hX6 y0 y1 y2 yl hb7 HTY HW6 HG6 HB6;obtain⟨e0,e1,g0,g1,g2,g3,g4⟩:=HX7.out.all;have y0:=HG7.out.cell 0;have y1:=HG7.out.cell 1;have y2:=HG7.out.cell 2;have yl:=HG7.out.lt;simp at y0 y1 y2;have hu:=Tryz.underlying47
   go_upto_region 7 with fail
   refine YjC [55,56,57,58,59,60,61,62,10,11] 8 9 ZK (fun i w' v'=>(([fun _ v'=>v'=.agg #[.slice A0 F.vars.length c0,.slice A1 F.params.length c1,.slice A2 F.blocks.length c2],fun _ v'=>v'=.agg #[.slice B0 I.args.length d0,.slice B1 I.rows.length d1],fun _ v'=>v'=.int .i64 (kk:Int),fun w' v'=>∃A c,v'=YG S1 (.slice A S1.trace.length c)∧w'.ownsRow 0 2 1 (.slice A S1.trace.length c) S1.trace.length (S1.trace.map (Value.int .i64)),fun _ v'=>v'=.agg #[.slice C0 F.vars.length k3,.slice C1 F.params.length k4,.slice C2 F.blocks.length k5],fun _ v'=>v'=.agg #[.slice B0 I.args.length d0,.slice B1 I.rows.length d1],fun _ v'=>v'=.int .i64 (kk:Int),fun w' v'=>∃A c,v'=YG S2 (.slice A S2.trace.length c)∧w'.ownsRow 0 2 1 (.slice A S2.trace.length c) S2.trace.length (S2.trace.map (Value.int .i64)),fun w' v'=>∃g,v'=.pointer (some ⟨g,0,none⟩)∧w7.heap.size≤g∧BoxAt w' g Yac 47,fun w' v'=>∃g,v'=.pointer (some ⟨g,0,none⟩)∧w7.heap.size≤g∧BoxAt w' g Yac 47]:List (World→Value→Prop)).getD i (fun _ _=>True)) w' v') ZK ZK ZK ZD ZK ZD ?mono ?step ?last
   case mono=>
    intro i w1 w2 v hi hb h
    match i,hi,h with
    |0,_,h=>exact h
    |1,_,h=>exact h
    |2,_,h=>exact h
    |3,_,h=>exact(by obtain⟨A,c,e1,e2⟩:=h;exact⟨A,c,e1,Yl e2 hb⟩)
    |4,_,h=>exact h
    |5,_,h=>exact h
    |6,_,h=>exact h
    |7,_,h=>exact(by obtain⟨A,c,e1,e2⟩:=h;exact⟨A,c,e1,Yl e2 hb⟩)
    |8,_,h=>exact(by obtain⟨g,e1,e2,e3⟩:=h;exact⟨g,e1,e2,e3.below hb e3.lt⟩)
    |9,_,h=>exact(by obtain⟨g,e1,e2,e3⟩:=h;exact⟨g,e1,e2,e3.below hb e3.lt⟩)
    |k+10,hi,_=>exact absurd hi (Nat.not_lt_of_le (Nat.le_add_left _ _))
   case step=>
    intro i o vs w1 ho hi hl hb hp K hK;have hl0:vs.length=10:=hl;clear hl;obtain⟨v0,r0,rfl,hl1⟩:=Ye (n:=9) hl0;obtain⟨v1,r1,rfl,hl2⟩:=Ye (n:=8) hl1;obtain⟨v2,r2,rfl,hl3⟩:=Ye (n:=7) hl2;obtain⟨v3,r3,rfl,hl4⟩:=Ye (n:=6) hl3;obtain⟨v4,r4,rfl,hl5⟩:=Ye (n:=5) hl4;obtain⟨v5,r5,rfl,hl6⟩:=Ye (n:=4) hl5;obtain⟨v6,r6,rfl,hl7⟩:=Ye (n:=3) hl6;obtain⟨v7,r7,rfl,hl8⟩:=Ye (n:=2) hl7;obtain⟨v8,r8,rfl,hl9⟩:=Ye (n:=1) hl8;obtain⟨v9,r9,rfl,hl10⟩:=Ye (n:=0) hl9;obtain rfl:=List.eq_nil_of_length_eq_zero hl10;clear hl0 hl1 hl2 hl3 hl4 hl5 hl6 hl7 hl8 hl9 hl10
    match i,ho,hi,hp with
    |0,ho,hi,hp=>
     obtain rfl:=Option.some.inj ho;clear hi;clear hp;simp only[Yc,Act.put,La,Lz,Lc];have z9:=(hb.cell (p:=⟨w.heap.size,0,none⟩) e0).trans g0;have z8:=(hb.cell (p:=⟨w.heap.size,1,none⟩) e0).trans g1;have z7:=(hb.cell (p:=⟨w.heap.size,2,none⟩) e0).trans g2;have zl:w.heap.size<w1.heap.size:=Nt e0 hb.size;go_simp
     try go_wp2
     refine hK.out (.agg #[.slice A0 F.vars.length c0,.slice A1 F.params.length c1,.slice A2 F.blocks.length c2]) _ _ ?_ ZE rfl (fun h=>absurd h ZD);simp only[Yc,Act.put,La,Lz,Lc]
    |1,ho,hi,hp=>
     obtain rfl:=Option.some.inj ho;clear hi;clear hp;simp only[Yc,Act.put,La,Lz,Lc];have z9:=(hb.cell (p:=⟨w.heap.size+1,0,none⟩) e1).trans g3;have z8:=(hb.cell (p:=⟨w.heap.size+1,1,none⟩) e1).trans g4;have zl:w.heap.size+1<w1.heap.size:=Nt e1 hb.size;go_simp
     try go_wp2
     refine hK.out (.agg #[.slice B0 I.args.length d0,.slice B1 I.rows.length d1]) _ _ ?_ ZE rfl (fun h=>absurd h ZD);simp only[Yc,Act.put,La,Lz,Lc]
    |2,ho,hi,hp=>
     obtain rfl:=Option.some.inj ho;clear hi;clear hp;simp only[Yc,Act.put,La,Lz,Lc];go_simp
     try go_wp2
     refine hK.out (.int .i64 (kk:Int)) _ _ ?_ ZE rfl (fun h=>absurd h ZD);simp only[Yc,Act.put,La,Lz,Lc]
    |3,ho,hi,hp=>
     obtain rfl:=Option.some.inj ho;clear hi;have q0:v0=.agg #[.slice A0 F.vars.length c0,.slice A1 F.params.length c1,.slice A2 F.blocks.length c2]:=hp 0 ZK;have q1:v1=.agg #[.slice B0 I.args.length d0,.slice B1 I.rows.length d1]:=hp 1 ZK;have q2:v2=.int .i64 (kk:Int):=hp 2 ZK;obtain rfl:=q0;obtain rfl:=q1;obtain rfl:=q2;clear hp;simp only[Yc,Act.put,La,Lz,Lc];go_simp;go_wp2_with(go_at_call 24;refine(HFR.out _ (HB7.out.trans (hb.mono HB7.out.size)) kk HKL.out).mono ?_;rintro e w9 ⟨v9,rfl,ho9,hb9⟩;rw[← HS1.out]at ho9 ⊢;obtain⟨A9,c9,hv9⟩:=Yh ho9;subst hv9);refine hK.out (YG S1 (.slice A9 S1.trace.length c9)) _ _ ?_ (hb9) (⟨_,_,rfl,ho9⟩) (fun h=>absurd h ZD);simp only[Yc,Act.put,La,Lz,Lc]
    |4,ho,hi,hp=>
     obtain rfl:=Option.some.inj ho;clear hi;clear hp;simp only[Yc,Act.put,La,Lz,Lc];have z9:=(hb.cell (p:=⟨w5.heap.size,0,none⟩) yl).trans y0;have z8:=(hb.cell (p:=⟨w5.heap.size,1,none⟩) yl).trans y1;have z7:=(hb.cell (p:=⟨w5.heap.size,2,none⟩) yl).trans y2;have zl:w5.heap.size<w1.heap.size:=Nt yl hb.size;go_simp
     try go_wp2
     refine hK.out (.agg #[.slice C0 F.vars.length k3,.slice C1 F.params.length k4,.slice C2 F.blocks.length k5]) _ _ ?_ ZE rfl (fun h=>absurd h ZD);simp only[Yc,Act.put,La,Lz,Lc]
    |5,ho,hi,hp=>
     obtain rfl:=Option.some.inj ho;clear hi;clear hp;simp only[Yc,Act.put,La,Lz,Lc];have z9:=(hb.cell (p:=⟨w.heap.size+1,0,none⟩) e1).trans g3;have z8:=(hb.cell (p:=⟨w.heap.size+1,1,none⟩) e1).trans g4;have zl:w.heap.size+1<w1.heap.size:=Nt e1 hb.size;go_simp
     try go_wp2
     refine hK.out (.agg #[.slice B0 I.args.length d0,.slice B1 I.rows.length d1]) _ _ ?_ ZE rfl (fun h=>absurd h ZD);simp only[Yc,Act.put,La,Lz,Lc]
    |6,ho,hi,hp=>
     obtain rfl:=Option.some.inj ho;clear hi;clear hp;simp only[Yc,Act.put,La,Lz,Lc];go_simp
     try go_wp2
     refine hK.out (.int .i64 (kk:Int)) _ _ ?_ ZE rfl (fun h=>absurd h ZD);simp only[Yc,Act.put,La,Lz,Lc]
    |7,ho,hi,hp=>
     obtain rfl:=Option.some.inj ho;clear hi;have q3:∃A c,v3=YG S1 (.slice A S1.trace.length c)∧w1.ownsRow 0 2 1 (.slice A S1.trace.length c) S1.trace.length (S1.trace.map (Value.int .i64)):=hp 3 ZK;have q4:v4=.agg #[.slice C0 F.vars.length k3,.slice C1 F.params.length k4,.slice C2 F.blocks.length k5]:=hp 4 ZK;have q5:v5=.agg #[.slice B0 I.args.length d0,.slice B1 I.rows.length d1]:=hp 5 ZK;have q6:v6=.int .i64 (kk:Int):=hp 6 ZK;obtain⟨E1,e1',rfl,ho1⟩:=q3;obtain rfl:=q4;obtain rfl:=q5;obtain rfl:=q6;clear hp;simp only[Yc,Act.put,La,Lz,Lc];go_simp;go_wp2_with(go_at_call 24;refine(HGR.out _ (HB57.out.trans (hb.mono HB57.out.size)) kk HKL.out).mono ?_;rintro e w9 ⟨v9,rfl,ho9,hb9⟩;rw[← HS2.out]at ho9 ⊢;obtain⟨A9,c9,hv9⟩:=Yh ho9;subst hv9);refine hK.out (YG S2 (.slice A9 S2.trace.length c9)) _ _ ?_ (hb9) (⟨_,_,rfl,ho9⟩) (fun h=>absurd h ZD);simp only[Yc,Act.put,La,Lz,Lc]
    |8,ho,hi,hp=>
     obtain rfl:=Option.some.inj ho;clear hi;clear hp;simp only[Yc,Act.put,La,Lz,Lc];go_simp;refine hK.out (.pointer (some ⟨w1.heap.size,0,none⟩)) _ _ ?_ ((Br _ _).alloc (Nr _) _) (⟨_,rfl,hb.size,BoxAt.new _ _ _⟩) (fun _=>⟨rfl,ZS⟩);simp only[Yc,Act.put,La,Lz,Lc]
    |9,ho,hi,hp=>
     obtain rfl:=Option.some.inj ho;clear hi;clear hp;simp only[Yc,Act.put,La,Lz,Lc];go_simp;refine hK.out (.pointer (some ⟨w1.heap.size,0,none⟩)) _ _ ?_ ((Br _ _).alloc (Nr _) _) (⟨_,rfl,hb.size,BoxAt.new _ _ _⟩) (fun _=>⟨rfl,ZS⟩);simp only[Yc,Act.put,La,Lz,Lc]
    |k+10,_,hi,_=>exact absurd hi (Nat.not_lt_of_le (Nat.le_add_left _ _))
   case last=>
    intro vs w1 hl hap0 hb1 hp;have hl0:vs.length=10:=hl;clear hl;obtain⟨v0,r0,rfl,hl1⟩:=Ye (n:=9) hl0;obtain⟨v1,r1,rfl,hl2⟩:=Ye (n:=8) hl1;obtain⟨v2,r2,rfl,hl3⟩:=Ye (n:=7) hl2;obtain⟨v3,r3,rfl,hl4⟩:=Ye (n:=6) hl3;obtain⟨v4,r4,rfl,hl5⟩:=Ye (n:=5) hl4;obtain⟨v5,r5,rfl,hl6⟩:=Ye (n:=4) hl5;obtain⟨v6,r6,rfl,hl7⟩:=Ye (n:=3) hl6;obtain⟨v7,r7,rfl,hl8⟩:=Ye (n:=2) hl7;obtain⟨v8,r8,rfl,hl9⟩:=Ye (n:=1) hl8;obtain⟨v9,r9,rfl,hl10⟩:=Ye (n:=0) hl9;obtain rfl:=List.eq_nil_of_length_eq_zero hl10;clear hl0 hl1 hl2 hl3 hl4 hl5 hl6 hl7 hl8 hl9 hl10;have q0:v0=.agg #[.slice A0 F.vars.length c0,.slice A1 F.params.length c1,.slice A2 F.blocks.length c2]:=hp 0 (of_decide_eq_true ZK);have q1:v1=.agg #[.slice B0 I.args.length d0,.slice B1 I.rows.length d1]:=hp 1 (of_decide_eq_true ZK);have q2:v2=.int .i64 (kk:Int):=hp 2 (of_decide_eq_true ZK);have q3:∃A c,v3=YG S1 (.slice A S1.trace.length c)∧w1.ownsRow 0 2 1 (.slice A S1.trace.length c) S1.trace.length (S1.trace.map (Value.int .i64)):=hp 3 (of_decide_eq_true ZK);have q4:v4=.agg #[.slice C0 F.vars.length k3,.slice C1 F.params.length k4,.slice C2 F.blocks.length k5]:=hp 4 (of_decide_eq_true ZK);have q5:v5=.agg #[.slice B0 I.args.length d0,.slice B1 I.rows.length d1]:=hp 5 (of_decide_eq_true ZK);have q6:v6=.int .i64 (kk:Int):=hp 6 (of_decide_eq_true ZK);have q7:∃A c,v7=YG S2 (.slice A S2.trace.length c)∧w1.ownsRow 0 2 1 (.slice A S2.trace.length c) S2.trace.length (S2.trace.map (Value.int .i64)):=hp 7 (of_decide_eq_true ZK);have q8:∃g,v8=.pointer (some ⟨g,0,none⟩)∧w7.heap.size≤g∧BoxAt w1 g Yac 47:=hp 8 (of_decide_eq_true ZK);have q9:∃g,v9=.pointer (some ⟨g,0,none⟩)∧w7.heap.size≤g∧BoxAt w1 g Yac 47:=hp 9 (of_decide_eq_true ZK);have hap:v8≠v9:=hap0;clear hap0;obtain rfl:=q0;obtain rfl:=q1;obtain rfl:=q2;obtain⟨E1,e1',rfl,ho1⟩:=q3;obtain rfl:=q4;obtain rfl:=q5;obtain rfl:=q6;obtain⟨E2,e2',rfl,ho2⟩:=q7;obtain⟨g5,rfl,hg5,bx5⟩:=q8;obtain⟨g6,rfl,hg6,bx6⟩:=q9;clear hp;simp only[Yc,Act.put,La,Lz,Lc];simp only[List.length_cons,List.length_nil,List.drop_succ_cons,List.drop_zero,Nat.zero_add,Nat.reduceAdd];have hst:=YjF hap bx5 bx6 ho1 ho2 hb1 hg5 hg6;have ha1:=Yc5 (n:=(Ym S1 (.slice E1 S1.trace.length e1')).toArray.size) bx5 rfl;have ha2:=World.there_setCells (Yc5 (n:=(Ym S2 (.slice E2 S2.trace.length e2')).toArray.size) bx6 rfl) g5 0 (Ym S1 (.slice E1 S1.trace.length e1')).toArray.toList;refine wpList_store_mid rfl 47 (.tmp 10) (.tmp 58) rfl g5 0 (Ym S1 (.slice E1 S1.trace.length e1')).toArray rfl rfl ha1 (YaF _ _) (YdB _ _ rfl) ?_;refine wpList_store_mid rfl 47 (.tmp 11) (.tmp 62) rfl g6 0 (Ym S2 (.slice E2 S2.trace.length e2')).toArray rfl rfl ha2 (YaF _ _) (YdB _ _ rfl) ?_;obtain⟨w2,hw2⟩:∃w2,w2=(w1.setCells g5 0 (Ym S1 (.slice E1 S1.trace.length e1')).toArray.toList).setCells g6 0 (Ym S2 (.slice E2 S2.trace.length e2')).toArray.toList:=⟨_,rfl⟩;rw[← hw2];replace hst:OutAt w2 g5 S1 E1 e1'∧OutAt w2 g6 S2 E2 e2'∧Below w7.heap.size w7 w2:=by rw[hw2];exact hst
    clear hw2 ha1 ha2 hap bx5 bx6 ho1 ho2 hb1 hg5 hg6;obtain⟨hO5,hO6,hb2⟩:=hst;have z5:=hO5.e0;have z6:=hO5.lt;have z7:=hO6.lt;obtain⟨th,hth⟩:∃th:Bool,(S1.ending !=3)=th:=⟨_,rfl⟩;have HTH:=Lh hth;have HO5:=Lh hO5;have HO6:=Lh hO6;have HB2:=Lh hb2;have hX2:=HX7.out.below hb2 HX7.out.lt;have hG2:=HG7.out.below hb2 yl;clear hO5 hO6 hb2 e0 e1 g0 g1 g2 g3 g4 y0 y1 y2 yl
    go_upto_region 8 with fail
    go_frame
    go_cut[78] (fun s wx=>s=.bool false∧Below w2.heap.size w2 wx)
    case first=>
     cases th
     · as_aux_lemma=>
       go_wp2_with fail
       go_meet
       exact⟨rfl,Br _ _⟩
     · as_aux_lemma=>
       have hne:=HFW.out (by have:=HTH.out;simpa using this);have hgt:decide (S1.steps<S2.steps)=false:=decide_eq_false ZO;have hP5:=HO5.out;have hP6:=HO6.out;clear HTH HFW hX2 hG2;go_wp2_with(first|(refine YdA rfl 47 _ rfl g5 0 rfl (Ym S1 (.slice E1 S1.trace.length e1')) _ hP5.rng hu rfl (YaF _ _) ?_)|(refine YdA rfl 47 _ rfl g6 0 rfl (Ym S2 (.slice E2 S2.trace.length e2')) _ hP6.rng hu rfl (YaF _ _) ?_)|(go_at_call 25;refine(YgU hne.1 hP5.rd hP6.rd (Br _ _) (by have:=HL1.out;omega)).mono ?_;rintro e wy ⟨rfl,hby⟩;have hQ5:=(hP5.below hby).e4;have hQ6:=(hP6.below hby).e4;have hQ7:=(hP5.below hby).lt;have hQ8:=(hP6.below hby).lt))
       go_meet
       exact⟨rfl,hby⟩
    case rest=>as_aux_lemma=>
     obtain⟨rfl,hbx⟩:=hcut;have hXx:=hX2.below hbx hX2.lt;have hGx:=hG2.below hbx hG2.lt;have HBx:=Lh (HB2.out.trans (hbx.mono HB2.out.size));have HB5x:=Lh (HB57.out.trans (HBx.out.mono HB57.out.size));have hs5:=HB5x.out.size;have hw1:=HW1.out;obtain⟨e0,e1,g0,g1,g2,g3,g4⟩:=hXx.all;have y0:=hGx.cell 0;have y1:=hGx.cell 1;have y2:=hGx.cell 2;have yl:=hGx.lt;simp at y0 y1 y2;clear hX2 hG2 hbx hXx hGx HX7 HG7 HO5 HO6 HFW HTH HB2
     go_upto_region 10 with fail
     obtain⟨S0,hS0⟩:∃S0:World→Prop,S0=fun w'=>w'.cell? ⟨w.heap.size,0,none⟩=some (.slice A0 F.vars.length c0)∧w'.cell? ⟨w.heap.size,1,none⟩=some (.slice A1 F.params.length c1)∧w'.cell? ⟨w.heap.size,2,none⟩=some (.slice A2 F.blocks.length c2)∧w'.cell? ⟨w.heap.size+1,0,none⟩=some (.slice B0 I.args.length d0)∧w'.cell? ⟨w.heap.size+1,1,none⟩=some (.slice B1 I.rows.length d1)∧w'.cell? ⟨w5.heap.size,0,none⟩=some (.slice C0 F.vars.length k3)∧w'.cell? ⟨w5.heap.size,1,none⟩=some (.slice C1 F.params.length k4)∧w'.cell? ⟨w5.heap.size,2,none⟩=some (.slice C2 F.blocks.length k5)∧Below wc.heap.size wc w'∧w.heap.size<w'.heap.size∧w.heap.size+1<w'.heap.size∧w5.heap.size<w'.heap.size:=⟨_,rfl⟩
     have HS0:=Lh hS0;clear hS0;have k0:=fun xw=>(WS.at HS0 xw).1
     have k1:=fun xw=>(WS.at HS0 xw).2.1
     have k2:=fun xw=>(WS.at HS0 xw).2.2.1
     have k3:=fun xw=>(WS.at HS0 xw).2.2.2.1
     have k4:=fun xw=>(WS.at HS0 xw).2.2.2.2.1
     have k5:=fun xw=>(WS.at HS0 xw).2.2.2.2.2.1
     have k6:=fun xw=>(WS.at HS0 xw).2.2.2.2.2.2.1
     have k7:=fun xw=>(WS.at HS0 xw).2.2.2.2.2.2.2.1
     have k8:=fun xw=>(WS.at HS0 xw).2.2.2.2.2.2.2.2.1
     have k9:=fun xw=>(WS.at HS0 xw).2.2.2.2.2.2.2.2.2.1
     have k10:=fun xw=>(WS.at HS0 xw).2.2.2.2.2.2.2.2.2.2.1
     have k11:=fun xw=>(WS.at HS0 xw).2.2.2.2.2.2.2.2.2.2.2
     refine YB (S:=S0) [0,1,2,3,4,5,6,7,8] ZK ZK (fun _ _ _ _ _ h=>h) ?hS (fun hSc=>?_)
     case hS=>
      rw[HS0.out];exact⟨ZI,ZI,ZI,ZI,ZI,ZI,ZI,ZI,BL,ZJ,ZJ,ZJ⟩
     have hne0:Nonempty (WS S0):=⟨⟨_,hSc⟩⟩;simp only[List.map_cons,List.map_nil,Ld,Le]
     repeat
      first
      |((with_reducible refine YC ?_ ?_);exact rfl;go_big_quiet_step (fail);(try with_reducible refine wpQuiet_nil ?_);(try dsimp only))
      |((with_reducible refine YS ?_ ?_ (fun K hK=>?_))
        exact rfl;exact rfl;go_simp;(try go_wp2_with(first|(go_at_call 32;refine(HIS.out _ (HB5x.out.trans (Below.mono BL hs5))).mono ?_;rintro e w9 ⟨rfl,hb9⟩;obtain⟨hc9,hf9⟩:=Yb hb9;have hz9:=hb9.size;(try simp at hz9))|(go_at_call 26;refine(hKE.out _ (HB5x.out.trans (Below.mono BL hs5))).mono ?_;rintro e w9 ⟨rfl,hb9⟩;obtain⟨hc9,hf9⟩:=Yb hb9;have hz9:=hb9.size;(try simp at hz9))));refine hK.out _ _ ?hS (fun hSc=>?_)
        case hS=>
         first
         |exact hSc
         |(rw[HS0.out]at hSc ⊢;obtain⟨p0,p1,p2,p3,p4,p5,p6,p7,p8,p9,p10,p11⟩:=hSc;exact⟨ZC0,ZC1,ZC2,ZC3,ZC4,ZC5,ZC6,(by first|exact(hc9 _ _ ZB).trans p7|exact ZC),(by first|exact p8.trans (hb9.mono (by have:=p8.size;first|omega|(simp at this ⊢;omega)))|exact BL),ZT9,(by first|exact Nt p10 hb9.size|exact ZT),(by first|exact Nt p11 hb9.size|exact ZT)⟩)
        clear hK K)
     refine YD ?_;rw[HS0.out]at hSc;obtain⟨p0,p1,p2,p3,p4,p5,p6,p7,p8,p9,p10,p11⟩:=hSc;clear hne0 HS0 k0 k1 k2 k3 k4 k5 k6 k7 k8 k9 k10 k11;go_wp2_with fail;go_ret;exact⟨rfl,(HB7.out.trans (HBx.out.mono HB7.out.size)).trans (p8.mono (HB7.out.trans (HBx.out.mono HB7.out.size)).size)⟩
 · as_aux_lemma=>
   obtain⟨e0,e1,g0,g1,g2,g3,g4⟩:=hX4.all;clear hr HSW HRF;go_wp2_with fail;refine(hlv _ hB4).mono ?_;rintro e w5 ⟨rfl,hb5⟩;go_wp2;go_ret;exact⟨rfl,hB4.trans (hb5.mono hB4.size)⟩
end Go.Proofs.YthhjlbflpjhahaaGreatDoor
namespace Go.Proofs.YthhjlbflpjhahaaGreatDoor
open Go.ChangeShapes Go.WideShapes Go.ChangeAt Go.RowKit
set_option maxRecDepth 100000
theorem YpR{H:Type}{W:World}{enc:TypeId×Value→H}{sp:Nat→Bool}{held:Bool}{r:Reach}{b0:Nat}{v:Value}{d:DataW H}{p:List MemPlace}(hv:Value.okWide Tryz.prog W r b0 5 v)(h:DataW.Trod enc Tryz.prog W 0 sp held 5 v d p):∃n:Nat,v=.int .u8 n∧n<256:=by
 obtain⟨k,rfl⟩:=okWide_int Tryz.underlying5 hv;obtain⟨fuel,hf⟩:=h;obtain⟨n,e,-,hn⟩:=DataW.trod_int Tryz.underlying5 (by simpa[Value.cells]using hf);simp only[List.cons.injEq,and_true,Value.int.injEq,true_and]at e;subst e;simp[Lit.wf,IntKind.min,IntKind.max,IntKind.signed,IntKind.bits]at hn;exact⟨k.toNat,by rw[Int.toNat_of_nonneg hn.1],ZO⟩
theorem YpS(os:Os)(started:os.Started)(H:Type)(enc:TypeId×Value→H) :
 ReturnsInHanded {} Tryz.checked os 8 .any (fun w args=>(Rows.copiesRunsSpec.pre enc Tryz.prog Tryz.f8 [] false w args∧laidMetH Tryz.prog YbY w)∧sizedMet enc Tryz.prog Tryz.f8 (OpenSpec.ofChange Rows.copiesRunsSpec) false w args)
  (Rows.copiesRunsSpec.post enc Tryz.prog Tryz.f8 false true false false):=by
 refine returnsInHanded_of_change_and (C:=Tryz.checked) (X:=fun w _=>laidMetH Tryz.prog YbY w) (fun _ _ _ hh h=>h.of_heap hh) own started ZK Tryz.func8
  (ChangeSpec.witness_shaped (enc:=enc) (C:=Tryz.checked) (os:=os) (X:=fun w _=>laidMetH Tryz.prog YbY w) false (World.laidAll Tryz.prog os YbY) #[.agg #[.slice none 0 0,.slice none 0 0,.slice none 0 0],.agg #[.slice none 0 0,.slice none 0 0],.int .u8 0] 8 (World.laidAll_os _ _ _)
    (World.shaped_of_ZipB ZK ZK) ZK ZK ZK
    (by rw[MakeChecks.laidMetH_plain _ _ _ ZK];exact Yji os _)) ?_
 intro W base args ds gs before hval0 hW _ hsz hL _;have hval:∀(j:Nat) t v,(Tryz.f8).params[j]?=some t→args[j]?=some v→Value.okWide Tryz.prog W .any base t v:=hval0;have hW':=hW;obtain⟨p,q,hA0,hV,rfl,_,_⟩:=hW;have hA:DataW.TrodAll enc Tryz.prog W 0 (fun _=>true) true (Tryz.f8).params.toList args.toList ds p:=hA0;rw[Tryz.params8]at hA hval hsz;obtain⟨v0,v1,v2,d0,d1,d2,p0,p1,p2,rfl,rfl,rfl,h0,h1,h2⟩:=trodAll_three hA;obtain⟨rfl,rfl⟩:=trodVars_none hV;simp only[List.append_nil]at hW';rw[MakeChecks.laidMetH_plain _ _ _ ZK]at hL;have hU:=Yjh hL;have hwt:Wt 26 d0:=by
  intro x hx;have hm:x∈DataW.weightsEach Tryz.prog ([26,38,5]++DataSpec.varTypes Tryz.prog Rows.copiesRunsSpec.plain) ([d0,d1,d2]++[]):=by simp[DataW.weightsEach,hx]
  have:=List.all_eq_true.1 hsz x hm;simpa using this
 have hwi:Wt 38 d1:=by
  intro x hx;have hm:x∈DataW.weightsEach Tryz.prog ([26,38,5]++DataSpec.varTypes Tryz.prog Rows.copiesRunsSpec.plain) ([d0,d1,d2]++[]):=by simp[DataW.weightsEach,hx]
  have:=List.all_eq_true.1 hsz x hm;simpa using this
 obtain⟨F,hF,hN⟩:=YjI (hval 0 _ v0 rfl rfl) h0 hwt;obtain⟨I,hI,hIn⟩:=YjJ (hval 1 _ v1 rfl rfl) h1 hwi;obtain⟨n,rfl,hn⟩:=YpR (hval 2 _ v2 rfl rfl) h2;have hlt:∀x∈p0++p1++p2,x.block<W.heap.size:=fun x hx=>by simpa using hW'.lt x hx
 refine(YpQ hU hF hN hI hIn hn).mono fun e W' ⟨he,hb⟩=>?_
 subst he;exact⟨_,rfl,_,_,_,[],_,[],hW',trodAll_mk1 (shut_bool Tryz.underlying4 _),trodAll_mk3 (Below.trod Ydx ZK (of_decide_eq_true ZK) h0 hb (fun x hx=>hlt x (List.mem_append_left _ (List.mem_append_left _ hx)))) (Below.trod Ydx ZK (of_decide_eq_true ZK) h1 hb (fun x hx=>hlt x (List.mem_append_left _ (List.mem_append_right _ hx)))) (Below.trod Ydx ZK (of_decide_eq_true ZK) h2 hb (fun x hx=>hlt x (List.mem_append_right _ hx))),rfl,hb.frame _,fun h=>by cases h⟩
theorem YpT:Rows.copiesRunsRow.holds Tryz.pinned (OpenSpec.ofChange Rows.copiesRunsSpec):=
 OpenClaim.holds_of_wide 8 Tryz.f8 rfl rfl rfl rfl rfl rfl rfl ⟨rfl,rfl,rfl,rfl,rfl⟩ rfl rfl rfl rfl rfl ZK Tryz.func8 ZK
  (of_decide_eq_true ZK) (by unfold Func.isWrapper;first|(rw[if_pos (by decide +kernel)];kernel_rfl)|(rw[if_neg (by decide +kernel)];exact⟨rfl,rfl⟩))
  (fun os started H enc _=>YpS os started H enc)
theorem cruns_card:Rows.CopiesRunsCardSaid:=
 Claim7.holds_tied_plain_at .later [] [.data,.pinned] true Rows.copiesRunsCard.stood.harness false YpT (fun _ h=>by cases h) ZK (fun _ h=>by cases h) copiesRuns_row_tie rfl ⟨rfl,rfl⟩ ZK rfl
  (fun f fn hf hfn=>by
    obtain rfl:f=8:=Option.some.inj ((show(Tryz.prog).funcNamed Rows.copiesRunsRow.func=some 8 from ZK).symm.trans hf) |>.symm;obtain rfl:fn=Tryz.f8:=(Option.some.inj (Tryz.func8.symm.trans hfn)).symm
    exact⟨ZK,fun j t ht=>by
     rw[Tryz.params8]at ht;have hm:t∈[26,38,5]:=by simpa using Array.mem_of_getElem? ht
     have hall:([26,38,5].all fun u=>!(Tryz.prog).wantsStandIn u)=true:=by kernel_rfl
     exact(show(Tryz.prog).wantsStandIn t=false by simpa using List.all_eq_true.1 hall t hm)⟩)
  ZK
#print axioms cruns_card
end Go.Proofs.YthhjlbflpjhahaaGreatDoor
