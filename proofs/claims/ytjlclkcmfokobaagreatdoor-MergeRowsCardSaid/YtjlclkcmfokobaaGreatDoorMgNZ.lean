/- The plain law of MergeNone: a plain program whose blocks' instructions were put in another order, with some of them gone, is plain; the merged one is such a program. -/
import Derived.Test.YtjlclkcmfokobaaGreatDoorMgPZ
import Derived.Test.YtjlclkcmfokobaaGreatDoorFewQZ
import Derived.Test.YtjlclkcmfokobaaGreatDoorMemTZ
import Derived.Test.YtjlclkcmfokobaaGreatDoorSBeZ
import Derived.Test.YtjlclkcmfokobaaGreatDoorMgXZ
import Derived.Test.YtjlclkcmfokobaaGreatDoorMonLZ
namespace Go.Proofs.YtjlclkcmfokobaaGreatDoor
open Go.RowKit
set_option maxRecDepth 100000
def imF(g:PBlock→List PInst)(F:PFunc):PFunc:={ F with blocks:=F.blocks.map fun b=>{ b with insts:=g b } }
structure YbM (g:PBlock→List PInst) (F:PFunc):Prop where
 sub:∀b∈F.blocks,∀x∈g b,x∈b.insts
 len:∀b∈F.blocks,(g b).length≤b.insts.length
 args:∀b∈F.blocks,Yo (g b)≤Yo b.insts
 mkd:∀b∈F.blocks,(dN (g b)).Perm (dN b.insts)
 ahd:∀b∈F.blocks,Ahd b.insts→Ahd (g b)
section
variable {F G:PFunc} {g:PBlock→List PInst} {i b:Nat} {v:Int} {T:Nat→Nat→Bool}
theorem Ya3:(imF g F).blocks.length=F.blocks.length:=by simp[imF]
theorem YeS{x:PBlock}:x∈(imF g F).blocks↔∃a∈F.blocks,({ a with insts:=g a }:PBlock)=x:=List.mem_map
theorem YgB(hi:i<F.blocks.length):(imF g F).blk i={ F.blk i with insts:=g (F.blk i) }:=by
 have h:=PFunc.blk_get hi;show((F.blocks.map _).getD i _)=_;rw[List.getD_eq_getElem?_getD,List.getElem?_map,h];rfl
theorem YeT:((imF g F).blk i).phis=(F.blk i).phis:=by
 unfold PFunc.blk imF;simp only[List.getD_eq_getElem?_getD,List.getElem?_map];cases F.blocks[i]?<;>rfl
theorem YgC:((imF g F).blk i).term=(F.blk i).term:=by
 unfold PFunc.blk imF;simp only[List.getD_eq_getElem?_getD,List.getElem?_map];cases F.blocks[i]?<;>rfl
theorem YjB:EN (imF g F)=EN F:=by
 funext i;unfold EN;rw[YgC]
theorem YjC:OR (imF g F)=OR F:=by
 unfold OR postO;rw[YjB,Ya3]
theorem YjD:∀i,Yq (imF g F) b i=Yq F b i
 |0=>rfl
 |i+1=>by
  unfold Yq;rw[YjD i,YgC]
theorem Ypn:PR (imF g F)=PR F:=by
 funext b;unfold PR;rw[YjD,Ya3]
theorem YjE:∀i,Y6 (imF g F) i=Y6 F i
 |0=>by unfold Y6;rw[Ya3]
 |i+1=>by unfold Y6;rw[YjE i,YjB]
theorem Ypo:YaO (imF g F)=YaO F:=by
 unfold YaO;rw[YjE,Ya3]
theorem Ypp:tabB (imF g F)=tabB F:=by
 funext a b;unfold tabB Ydh;rw[YjC,Ypn]
theorem Ypq(h:Ybh F=true):Ybh (imF g F)=true:=by
 unfold Ybh at *;rw[Ya3,YjC];exact h
theorem Ypr(h:Yai F=true):Yai (imF g F)=true:=by
 unfold Yai at *;rw[Ya3];rw[List.all_eq_true]at *;intro i hi;have:=h i hi;rw[List.all_eq_true]at *;rw[YeT];intro p hp;have:=this p hp;unfold Ybv at *;rw[Ypo];exact this
theorem Yps:bnames (imF g F)=bnames F:=by
 unfold bnames imF;simp only[List.map_map];rfl
theorem Ypt:Yag (imF g F)=Yag F:=by
 unfold Yag;rw[Yps,Ya3];rfl
theorem Ypu:YI (imF g F)=YI F:=by
 funext p;unfold YI YcW;rw[Ya3];rfl
theorem Ypv:Ym (imF g F)=Ym F:=rfl
theorem Ypw:YJ (imF g F)=YJ F:=by
 funext t;unfold YJ;rw[Ya3];rfl
theorem YjF:∀{bs:List PBlock},(∀b∈bs,(g b).length≤b.insts.length)→YaK (bs.map fun b=>{ b with insts:=g b })≤YaK bs
 |[],_=>Nr _
 |b::r,h=>by
  have ih:=YjF (bs:=r) fun c hc=>h c (by simp[hc])
  have h1:=h b ZS;simp only[List.map_cons,YaK]at *;omega
theorem YjG:∀{a b:List Int},YV (imF g F) a b=YV F a b
 |[],_=>by simp[YV]
 |_::_,[]=>by simp[YV]
 |x::a,t::b=>by
  have ih:=YjG (a:=a) (b:=b);simp only[YV,ih];rfl
theorem Ypx:YE (imF g F)=YE F:=by
 funext x;unfold YE;rw[YjG];rfl
theorem Ypy(hg:YbM g F)(h:Yd F=true):Yd (imF g F)=true:=by
 unfold Yd at *;simp only[Bool.and_eq_true,List.all_eq_true]at h ⊢;refine⟨?_,fun b hb=>?_⟩
 · have h:=h.1
   unfold Yj at *;simp only[Bool.and_eq_true,decide_eq_true_eq,List.all_eq_true]at h ⊢;refine⟨⟨by rw[Ypt];exact h.1.1,fun b hb=>?_⟩,Nat.le_trans (YjF hg.len) h.2⟩;obtain⟨a,ha,rfl⟩:=YeS.1 hb;have h:=h.1.2 a ha;unfold YaJ at *;rw[Ypu,Ypv,Ypw];simp only[Bool.and_eq_true,Bool.not_eq_true',List.any_eq_false]at h ⊢;exact⟨⟨h.1.1,fun x hx=>h.1.2 x (hg.sub a ha x hx)⟩,h.2⟩
 · obtain⟨a,ha,rfl⟩:=YeS.1 hb
   have:=h.2 a ha;unfold YK at *;simp only[Bool.and_eq_true,List.all_eq_true]at this ⊢;rw[Ypx];exact⟨⟨this.1.1,fun x hx=>this.1.2 x (hg.sub a ha x hx)⟩,this.2⟩
theorem Ypz(hg:YbM g F)(h:noPi F=true):noPi (imF g F)=true:=by
 unfold noPi at *;simp only[List.all_eq_true]at h ⊢;intro b hb;obtain⟨a,ha,rfl⟩:=YeS.1 hb;exact fun x hx=>h a ha x (hg.sub a ha x hx)
theorem YjH:∀{bs:List PBlock},(∀b∈bs,(g b).length≤b.insts.length∧Yo (g b)≤Yo b.insts)→((bs.map fun b=>({ b with insts:=g b }:PBlock)).map bSz).sum≤(bs.map bSz).sum
 |[],_=>Nr _
 |b::r,h=>by
  have ih:=YjH (bs:=r) fun c hc=>h c (by simp[hc])
  have h1:=h b ZS;simp only[List.map_cons,List.sum_cons];have h2:bSz ({ b with insts:=g b }:PBlock)≤bSz b:=by
   unfold bSz Y9;simp only;omega
  omega
theorem YpA(hg:YbM g F)(h1:1≤F.blocks.length)(h:Yv F=true):Yv (imF g F)=true:=by
 refine Ypl h h1 rfl rfl (by rw[Ya3];exact Nr _) (YjH fun b hb=>⟨hg.len b hb,hg.args b hb⟩) fun hB _ x hx=>?_
 obtain⟨a,ha,rfl⟩:=YeS.1 hx;have hO:=hB a ha;exact⟨hO.name,hO.phis,Nat.le_trans (hg.len a ha) hO.insts,hO.ph,fun y hy=>hO.ins y (hg.sub a ha y hy)⟩
theorem YjI{e:List Ev}{v:Int}:(mkOf e v).length=((e.map (·.dst)).filter fun d=>d==v).length:=by
 unfold mkOf;rw[List.length_map,List.filter_map,List.length_map];rfl
theorem YjJ:(Yah F i).map (·.dst)=(F.blk i).phis.map (·.dst)++(F.blk i).insts.map (·.dst):=by
 unfold Yah evPhi evIns;rw[List.map_append,List.map_map,List.map_map];congr 1
 · refine List.ext_getElem ZS fun k h1 h2=>?_
   simp at h1;simp[PBlock.phi,h1]
 · refine List.ext_getElem ZS fun k h1 h2=>?_
   simp at h1;simp[PBlock.inst,h1]
theorem YjK{l:List PInst}(hv:0≤v):((l.map (·.dst)).filter fun d=>d==v).length=((dN l).filter fun y=>y.dst==v).length:=by
 unfold dN;rw[List.filter_map,List.length_map,List.filter_filter];congr 1;refine List.filter_congr fun y _=>?_
 show(y.dst==v)=_
 by_cases e:y.dst=v
 · simp[e,hv]
 · simp[e]
theorem YjL(hg:YbM g F)(hv:0≤v):∀n,n≤F.blocks.length→(mkOf (evs (imF g F) n) v).length=(mkOf (evs F n) v).length
 |0,_=>rfl
 |n+1,h=>by
  have ih:=YjL hg hv n ZO;unfold evs;rw[YaP,YaP,List.length_append,List.length_append,ih];congr 1;rw[YjI,YjI,YjJ,YjJ,YeT,YgB ZO];simp only[List.filter_append,List.length_append];congr 1;rw[YjK hv,YjK hv];exact((hg.mkd _ (Y4 ZO)).filter _).length_eq
theorem YpB(hg:YbM g F)(hv:0≤v):(mkOf (evF (imF g F)) v).length=(mkOf (evF F) v).length:=by
 unfold evF;rw[Ya3];exact YjL hg hv _ (Nr _)
theorem YgD(hg:YbM g F)(h:Yr F=true):Yr (imF g F)=true:=by
 unfold Yr at *;rw[List.all_eq_true]at *;intro v hv;have h1:=h v hv;unfold onceAt at *;rw[YpB hg ZO];exact h1
theorem YpC{at_ at':Int}(ho:(mkOf (evF F) v).length≤1)(ho':(mkOf (evF G) v).length≤1)(hs:∀i a,Yas G v i a→∃a',Yas F v i a')(hm:-1<at')(hown:∀k:Nat,Yas G v b k→(k:Int)<at')(h:YC F T v b at_=true):YC G T v b at'=true:=by
 unfold YC at *
 by_cases hex:∃i a,Yas G v i a
 · obtain⟨i,a,hk⟩:=hex
   obtain⟨a',hk'⟩:=hs i a hk;rw[Ycm ho hk']at h;rw[Ycm ho' hk];unfold Yba at *;simp only at h ⊢;rw[if_neg ZO]at h⊢
   by_cases hib:(i:Int)=(b:Int)
   · rw[if_pos hib,decide_eq_true_eq]
     obtain rfl:i=b:=by omega
     rcases hk.2 with⟨rfl,-⟩|⟨k,-,rfl,-⟩
     · exact hm
     · exact hown k hk
   · rw[if_neg hib]at h⊢
     exact h
 · rw[Ymd fun i a hk=>hex ⟨i,a,hk⟩]
   rfl
theorem YpD(hg:YbM g F):∀i a,Yas (imF g F) v i a→∃a',Yas F v i a':=fun i a h=>by
 obtain⟨hi,h⟩:=h;rw[Ya3]at hi;rw[YeT]at h;rcases h with⟨rfl,p,hp,rfl⟩|⟨k,hk,-,e⟩
 · exact⟨-1,hi,.inl ⟨rfl,p,hp,rfl⟩⟩
 · have hx:=Yar hk
   rw[e.symm];generalize ((imF g F).blk i).inst k=x at hx;rw[YgB hi]at hx;obtain⟨j,hj,e2⟩:=List.getElem_of_mem (hg.sub _ (Y4 hi) x hx);exact⟨j,hi,.inr ⟨j,hj,rfl,by rw[← e2];simp[PBlock.inst,List.getD,hj]⟩⟩
theorem YpE{a:List Int}(h:v∈a):∃k,k<a.length∧ith a k=v:=by
 obtain⟨k,hk,e⟩:=List.getElem_of_mem h;exact⟨k,hk,by simp[ith,List.getD,hk,e]⟩
theorem YpF(hT:Yd F=true)(hO:Yr F=true)(hi:i<F.blocks.length)(h:YH F T i=true):Ahd (F.blk i).insts:=by
 intro P y Q e w hw h0 ⟨m,hm,hd⟩;have hk:P.length<(F.blk i).insts.length:=by rw[e];simp
 have hy:(F.blk i).inst P.length=y:=by simp[PBlock.inst,List.getD,e]
 unfold YH at h;simp only[Bool.and_eq_true]at h;have h1:=List.all_eq_true.1 h.1.2 P.length (List.mem_range.2 hk);unfold instBe at h1;rw[hy]at h1;have h2:=List.all_eq_true.1 h1 w hw;obtain⟨j,hj,e2⟩:=List.getElem_of_mem hm;have hj2:(F.blk i).inst j=m:=by simp[PBlock.inst,List.getD,hj,e2]
 have hlt:=(YdJ hT hi hj).1;rw[hj2]at hlt;have hM:=Ycm (Yb6 hO h0 ZO) (⟨hi,.inr ⟨j,hj,rfl,by rw[hj2];exact hd⟩⟩:Yas F w i (j:Int));unfold YC at h2;rw[hM]at h2;unfold Yba at h2;simp only at h2;rw[if_neg ZO,if_pos trivial,decide_eq_true_eq]at h2;have hjP:j<P.length:=by omega
 refine⟨m,?_,hd⟩;have h3:(F.blk i).insts[j]?=some m:=by rw[List.getElem?_eq_getElem hj,e2]
 rw[e,List.getElem?_append_left hjP]at h3;exact List.mem_of_getElem? h3
theorem YpG(hT:Yd F=true)(hO:Yr F=true)(hg:YbM g F)(hi:i<F.blocks.length)(h:YH F T i=true):YH (imF g F) T i=true:=by
 have hA:=hg.ahd _ (Y4 hi) (YpF hT hO hi h);have hO':=YgD hg hO;have key:∀(v:Int) (b:Nat),0≤v→v<F.vars.length→∀at_ at':Int,-1<at'→(∀k:Nat,Yas (imF g F) v b k→(k:Int)<at')→YC F T v b at_=true→YC (imF g F) T v b at'=true:=fun v b h0 h1 at_ at' hm hown h=>
  YpC (Yb6 hO h0 h1) (Yb6 hO' h0 h1) (YpD hg) hm hown h
 have atEnd:∀(v:Int) (b:Nat),0≤v→v<F.vars.length→∀at_:Int,YC F T v b at_=true→YC (imF g F) T v b (((imF g F).blk b).insts.length:Int)=true:=fun v b h0 h1 at_ h=>
  key v b h0 h1 at_ _ ZO (fun k hk=>by
   obtain⟨-,⟨h3,-⟩|⟨j,hj,e,-⟩⟩:=hk
   · exact ZO
   · omega) h
 unfold YH at *;simp only[Bool.and_eq_true]at h ⊢;obtain⟨⟨h1,h2⟩,h3⟩:=h;refine⟨⟨?_,?_⟩,?_⟩
 · rw[List.all_eq_true]at h1⊢
   rw[YeT];intro p hp;obtain⟨n,hn,e⟩:=List.getElem_of_mem hp;have hpn:(F.blk i).phi n=p:=by simp[PBlock.phi,List.getD,hn,e]
   have hph:=YdI hT hi hn;rw[hpn]at hph;have:=h1 p hp;unfold Ybt at *;rw[List.all_eq_true]at this ⊢;intro k hk;have hra:=hph.2.2 k (List.mem_range.1 hk);exact atEnd _ _ hra.1 hra.2 _ (this k hk)
 · rw[List.all_eq_true]at h2⊢
   intro k hk;have hk1:=List.mem_range.1 hk;have hx:=Yar hk1;have hsp:((imF g F).blk i).insts=((imF g F).blk i).insts.take k++((imF g F).blk i).inst k::((imF g F).blk i).insts.drop (k+1):=by
    have:((imF g F).blk i).inst k=((imF g F).blk i).insts[k]:=by simp[PBlock.inst,List.getD,hk1]
    rw[this,← List.drop_eq_getElem_cons hk1,List.take_append_drop]
   unfold instBe;rw[List.all_eq_true];intro v hv;have hins:((imF g F).blk i).insts=g (F.blk i):=by rw[YgB hi]
   obtain⟨j,hj,e⟩:=List.getElem_of_mem (hg.sub _ (Y4 hi) _ (by rw[← hins];exact hx));have hxj:(F.blk i).inst j=((imF g F).blk i).inst k:=by rw[← e];simp[PBlock.inst,List.getD,hj]
   have h4:=h2 j (List.mem_range.2 hj);unfold instBe at h4;rw[hxj,List.all_eq_true]at h4;obtain⟨t,ht,et⟩:=YpE hv;have hra:=(YdJ hT hi hj).2 t (by rw[hxj];exact ht);rw[hxj,et]at hra;refine key v i hra.1 hra.2 _ _ ZO (fun k2 hk2=>?_) (h4 v hv);obtain⟨-,⟨h5,-⟩|⟨j2,hj2,e5,hd⟩⟩:=hk2
   · exact ZO
   · obtain rfl:k2=j2:=by omega
     rw[hins]at hsp;obtain⟨m,hm,hdm⟩:=hA _ _ _ hsp v hv hra.1 ⟨((imF g F).blk i).inst k2,by rw[← hins];exact Yar hj2,hd⟩;obtain⟨j3,hj3,e3⟩:=List.getElem_of_mem hm;have hj3k:j3<k:=by rw[List.length_take]at hj3;omega
     have hj3l:j3<((imF g F).blk i).insts.length:=by omega
     have e6:((imF g F).blk i).inst j3=m:=by
      rw[← e3,List.getElem_take];simp only[PBlock.inst,List.getD_eq_getElem?_getD,List.getElem?_eq_getElem hj3l,Option.getD_some];congr 1
     have hM3:Yas (imF g F) v i (j3:Int):=⟨by rw[Ya3];exact hi,.inr ⟨j3,hj3l,rfl,by rw[e6];exact hdm⟩⟩;have hM2:Yas (imF g F) v i (k2:Int):=⟨by rw[Ya3];exact hi,.inr ⟨k2,hj2,rfl,hd⟩⟩;have q1:=Ycm (Yb6 hO' hra.1 hra.2) hM3;have q2:=Ycm (Yb6 hO' hra.1 hra.2) hM2;rw[q1]at q2;have:=congrArg Prod.snd q2;simp only at this;omega
 · unfold Yc9 at *
   rw[Bool.or_eq_true]at h3 ⊢;rw[YgC];rcases h3 with h3|h3
   · exact .inl h3
   · by_cases hk:(F.blk i).term.kind=0
     · exact .inl (decide_eq_true hk)
     · have hra:=YhC hT hi hk
       exact .inr (atEnd _ _ hra.1 hra.2 _ h3)
theorem YpH(hT:Yd F=true)(hg:YbM g F)(h:Yak F=true):Yak (imF g F)=true:=by
 unfold Yak at *;simp only[Bool.and_eq_true]at h ⊢;refine⟨⟨⟨Ypr h.1.1.1,Ypq h.1.1.2⟩,YgD hg h.1.2⟩,?_⟩;rw[List.all_eq_true]at *;intro i hi;rw[Ya3]at hi;rw[Ypp];exact YpG hT h.1.2 hg (List.mem_range.1 hi) (h.2 i hi)
theorem YpI(hT:Yd F=true)(hg:YbM g F)(h:YaC F=true):YaC (imF g F)=true:=by
 unfold YaC at *;rw[Bool.and_eq_true]at *;exact⟨YpH hT hg h.1,Ypz hg h.2⟩
end
section
variable {F:PFunc} {i:Nat} {v n:Int}
theorem YqY:mrgF F=imF (fun b=>mrgL (kF F) b.insts) F:=rfl
theorem YjM(hT:Yd F=true)(hO:Yr F=true)(h:kF F v=some n)(hi:i<F.blocks.length){y:PInst}(hy:y∈(F.blk i).insts)(hd:y.dst=v)(h0:0≤v):y.op=0∧y.num=n:=by
 rcases YdW h with h|⟨b,hb,z,hz,e1,e2,e3⟩
 · cases h
 · obtain⟨j,hj,e⟩:=List.getElem_of_mem hb
   have ej:F.blk j=b:=by simp[PFunc.blk,List.getD,hj,e]
   subst ej;obtain⟨s,hs,es⟩:=List.getElem_of_mem hz;obtain⟨t,ht,et⟩:=List.getElem_of_mem hy;have es2:(F.blk j).inst s=z:=by simp[PBlock.inst,List.getD,hs,es]
   have et2:(F.blk i).inst t=y:=by simp[PBlock.inst,List.getD,ht,et]
   have hlt:=(Ygs hT hi y hy).2;have h1:=Ycm (Yb6 hO h0 ZO) (⟨hj,.inr ⟨s,hs,rfl,by rw[es2];exact e2⟩⟩:Yas F v j (s:Int));have h2:=Ycm (Yb6 hO h0 ZO) (⟨hi,.inr ⟨t,ht,rfl,by rw[et2];exact hd⟩⟩:Yas F v i (t:Int));rw[h1]at h2;injection h2 with h3 h4
   obtain rfl:j=i:=by omega
   obtain rfl:s=t:=by omega
   rw[es2]at et2;subst et2;exact⟨e1,e3⟩
theorem YpJ(hT:Yd F=true)(hO:Yr F=true)(hi:i<F.blocks.length):GoodL (kF F) (F.blk i).insts:=by
 have nv:=Yb5 hT;refine⟨YeI hT ZO hi,fun y hy n hk h0=>?_⟩;have h1:=(YjM hT hO hk hi hy rfl h0).1;refine⟨h1,?_⟩;have h2:=(Ybd (Yx hT) hi).2.1 y hy;unfold Ym at h2;simp only[Bool.and_eq_true,decide_eq_true_eq]at h2;have h3:=h2.1.1.1.2;rw[h1]at h3;have h4:(YM 0).length=0:=by decide +kernel
 rw[h4]at h3;exact List.eq_nil_of_length_eq_zero h3
theorem Ycb(hT:Yd F=true)(hO:Yr F=true){b:PBlock}(hb:b∈F.blocks):GoodL (kF F) b.insts:=by
 obtain⟨i,hi,e⟩:=List.getElem_of_mem hb;have h:=YpJ hT hO hi
 rwa [show F.blk i=b by simp[PFunc.blk,List.getD,hi,e]]at h
theorem YpK{k:Int→Option Int}{a:Int}{l:List PInst}:Yo (thin k a l)≤Yo l:=by
 have h1:l.takeWhile isQ++l.dropWhile isQ=l:=List.takeWhile_append_dropWhile;have h2:∀(p:PInst→Bool) (m:List PInst),Yo (m.filter p)≤Yo m:=fun p m=>by
  induction m with
  |nil=>exact Nr _
  |cons x m ih=>
   rw[List.filter_cons];split<;>(simp only[Yo];omega)
 have h3:Yo (l.takeWhile isQ++l.dropWhile isQ)=Yo l:=by rw[h1]
 rw[Yd2]at h3;unfold thin;rw[Yd2];have:=h2 (fun y=>!YY k a y) (l.takeWhile isQ);omega
theorem YjN{p:PInst→Bool}:∀{l:List PInst},Yo (l.filter p)+Yo (l.filter fun y=>!p y)=Yo l
 |[]=>rfl
 |x::l=>by
  have ih:=YjN (p:=p) (l:=l);cases hp:p x<;>(simp only[List.filter_cons,hp,Bool.not_true,Bool.not_false,Bool.false_eq_true,if_true,if_false,Yo];omega)
theorem YjO{k:Int→Option Int}:∀{n:Nat} {l:List PInst},l.length≤n→GoodL k l→Yo (mrgL k l)≤Yo l
 |_,[],_,_=>by rw[YbN];exact Nr _
 |0,x::l,h,_=>by simp at h
 |n+1,x::l,h,hg=>by
  have h1:=Ybm (k:=k) (x:=x) (l:=l);simp only[List.length_cons]at h;have ih:=YjO (n:=n) (l:=(mrgS k x l).2) ZO hg.rest;rw[Ybn,Yd2];cases hf:fixP k x with
  |none=>
   rw[Yca hf]at ih ⊢;simp only[Yo]at ih ⊢;omega
  |some b=>
   obtain⟨a,u,v,m,rfl,-,-,-,-,e⟩:=Ydj hg hf;rw[e]at ih ⊢;have h2:=YjN (p:=mvP u v) (l:=thin k a l);have h3:=YpK (k:=k) (a:=a) (l:=l);have h4:Yo (chk a u::l)=2+Yo l:=rfl;have h5:Yo [chk a v]=2:=rfl;rw[Yd2,h5,h4];simp only at ih ⊢;omega
theorem YeU(hT:Yd F=true)(hO:Yr F=true):YbM (fun b=>mrgL (kF F) b.insts) F:=
 ⟨fun _ hb=>YeQ (Ycb hT hO hb),fun _ _=>Ygq (Nr _),fun _ hb=>YjO (Nr _) (Ycb hT hO hb),fun _ hb=>Yjp (Ycb hT hO hb),fun _ hb=>Ahd.all (Ycb hT hO hb)⟩
theorem YpL(h:Yak F=true):Yr F=true:=by
 unfold Yak at h;simp only[Bool.and_eq_true]at h;exact h.1.2
theorem YgE(hT:Yd F=true)(hO:Yr F=true):Yd (mrgF F)=true:=Ypy (YeU hT hO) hT
theorem YpM(hT:Yd F=true)(hO:Yr F=true)(h:Yv F=true):Yv (mrgF F)=true:=YpA (YeU hT hO) (Y1 (Yx hT)).1 h
theorem YpN(hT:Yd F=true)(h:YaC F=true):YaC (mrgF F)=true:=by
 have hO:Yr F=true:=YpL (by unfold YaC at h;rw[Bool.and_eq_true]at h;exact h.1);exact YpI hT (YeU hT hO) h
theorem YgF(hT:Yd F=true)(hO:Yr F=true):Yr (mrgF F)=true:=YgD (YeU hT hO) hO
theorem YpO(hT:Yd F=true)(hO:Yr F=true)(h0:0≤v):kF (mrgF F) v=kF F v:=by
 cases h:kF F v with
 |none=>
  cases h2:kF (mrgF F) v with
  |none=>rfl
  |some n=>
   rcases YdW h2 with h3|⟨b,hb,y,hy,e1,e2,e3⟩
   · cases h3
   · obtain⟨a,ha,rfl⟩:=List.mem_map.1 hb
     exact absurd e2 ((YeK h).2 a ha y (YeQ (Ycb hT hO ha) y hy) e1)
 |some n=>
  rcases YdW h with h3|⟨b,hb,y,hy,e1,e2,e3⟩
  · cases h3
  · have hy2:y∈mrgL (kF F) b.insts:=Ypi (Ycb hT hO hb) hy ZO
    have hb2:Ybj (kF F) b∈(mrgF F).blocks:=List.mem_map_of_mem hb;cases h2:kF (mrgF F) v with
    |none=>exact absurd e2 ((YeK h2).2 _ hb2 y hy2 e1)
    |some n'=>
     obtain⟨i,hi,e⟩:=List.getElem_of_mem hb2;have ei:(mrgF F).blk i=Ybj (kF F) b:=by simp only[PFunc.blk,List.getD_eq_getElem?_getD,List.getElem?_eq_getElem hi,e,Option.getD_some]
     have:=(YjM (YgE hT hO) (YgF hT hO) h2 hi (y:=y) (by rw[ei];exact hy2) e2 h0).2;rw[← e3,← this]
theorem YjP{k k':Int→Option Int}{x:PInst}(hk:∀v,0≤v→k v=k' v)(hx:ShC x):fixP k x=fixP k' x:=by
 unfold fixP
 by_cases h:x.op=18
 · obtain⟨a,v,rfl,h0⟩:=hx h
   rw[if_pos h,if_pos h];show(k v).bind _=(k' v).bind _;rw[hk v h0]
 · rw[if_neg h,if_neg h]
theorem YjQ(hT:Yd F=true)(hO:Yr F=true){b:PBlock}(hb:b∈(mrgF F).blocks):Sep (kF (mrgF F)) b.insts:=by
 obtain⟨a,ha,rfl⟩:=List.mem_map.1 hb;have hg:=Ycb hT hO ha;have h:=Sep.mrg hg;have hsub:=YeQ hg;have hk:∀v,0≤v→kF F v=kF (mrgF F) v:=fun v h0=>(YpO hT hO h0).symm
 intro P x Q e c hc y hy;have e:mrgL (kF F) a.insts=P++x::Q:=e;have hx:x∈a.insts:=hsub x (by rw[e];simp);have hyQ:y∈Q:=(List.takeWhile_sublist _).subset hy;have hya:y∈a.insts:=hsub y (by rw[e];simp[hyQ]);have h2:=h P x Q e c (by rw[YjP hk (hg.ok x hx).sh];exact hc) y hy;unfold YY at *;rw[YjP hk (hg.ok y hya).sh]at h2;exact h2
theorem YpP(hT:Yd F=true)(hO:Yr F=true):mrgF (mrgF F)=mrgF F:=by
 have h1:(mrgF F).blocks.map (Ybj (kF (mrgF F)))=(mrgF F).blocks:=by
  have:∀b∈(mrgF F).blocks,Ybj (kF (mrgF F)) b=b:=fun b hb=>by
   have h2:=Sep.self (fun y hy=>((Ycb (YgE hT hO) (YgF hT hO) hb).ok y hy).sh) (YjQ hT hO hb);unfold Ybj;rw[h2]
  rw[List.map_congr_left this,List.map_id']
 show { mrgF F with blocks:=(mrgF F).blocks.map (Ybj (kF (mrgF F))) }=mrgF F;rw[h1]
end
theorem YeV{W w:World}{v:Value}{xs:List Int}(h:SInts W W.heap.size v xs)(hw:Below W.heap.size W w):DInts w (fun _=>True) v xs:=by
 obtain⟨A,c,rfl,hl,hc,hr⟩:=h;refine⟨A,c,rfl,hl,hc,fun k y hy=>?_⟩;obtain⟨b,off,rfl,hb,h5⟩:=hr k y hy;have hs:=hw.size
 exact⟨b,off,[.int .i64 y],rfl,trivial,ZO,rfl,fun j u hj=>by
  match j,hj with
  |0,hj=>cases hj;exact(hw.cell (p:=⟨b,off+k*1,none⟩) hb).trans h5,rfl⟩
theorem YjR{G:PFunc}{x:PInst}(h:0≤Yav G x):x.op=18:=by
 unfold Yav at h;split at h
 · exact ZA
 · exact ZO
theorem YjS{w:World}{D:Nat→Prop}{A:Option Addr}{c:Nat}{y:PInst}(h:OkI y)(h1:y.op=18)(hd:DInts w D (.slice A y.args.length c) y.args):∃yb yo,A=some ⟨yb,yo,none⟩∧yb<w.heap.size∧w.cell? ⟨yb,yo,none⟩=some (.int .i64 (ith y.args 0))∧0<y.args.length:=by
 obtain⟨a,u,rfl,-⟩:=h.2.2 h1;obtain⟨ab,ao,e,hab,-,hc,-⟩:=YdX hd;exact⟨ab,ao,e,hab,hc,Nat.zero_lt_two⟩
theorem YpQ{G:PFunc}(hT:Yd G=true)(hO:Yr G=true){b:PBlock}(hS:Sep (kF G) b.insts)(hok:∀x∈b.insts,OkI x){k j:Nat}(hk:k<b.insts.length)(hj:j<Yl (b.insts.drop (k+1)))(hx:0≤Yav G (b.inst k))(hy:0≤Yav G (b.inst (k+1+j))):ith (b.inst (k+1+j)).args 0≠ith (b.inst k).args 0:=by
 have hw:=YcT (l:=b.insts.drop (k+1));rw[List.length_drop]at hw;have hkj:k+1+j<b.insts.length:=by omega
 have hsp:b.insts=b.insts.take k++b.inst k::b.insts.drop (k+1):=by
  have:b.inst k=b.insts[k]:=by simp[PBlock.inst,List.getD,hk]
  rw[this,← List.drop_eq_getElem_cons hk,List.take_append_drop]
 have key:∀{i:Nat},i<b.insts.length→0≤Yav G (b.inst i)→∃m,fixP (kF G) (b.inst i)=some m:=fun {i} hi h=>by
  have hs:=(hok _ (Yar hi)).sh;cases hf:fixP (kF G) (b.inst i) with
  |some m=>exact⟨m,rfl⟩
  |none=>rw[Yi7 hT hO hs hf]at h;omega
 obtain⟨m,hm⟩:=key hk hx;obtain⟨m',hm'⟩:=key hkj hy;have hin:b.inst (k+1+j)∈(b.insts.drop (k+1)).takeWhile isQ:=by
  rw[← YeO];refine List.mem_of_getElem? (i:=j) ?_;rw[List.getElem?_take,if_pos hj,List.getElem?_drop,PBlock.inst_get hkj]
 have h:=hS _ _ _ hsp m hm _ hin;unfold YY at h;rw[hm']at h;simpa using h
set_option maxHeartbeats 16000000 in
theorem YpR{W:World}{fv:Value}{F:PFunc}(hU:Uni W)(hF:FnV W W.heap.size fv F)(hnum:∀b∈F.blocks,∀x∈b.insts,(Lit.int .i64 x.num).wf=true) :
 Calls Tryz.prog 4 #[fv] W fun e w'=>e=.returned (.bool true)∧Below W.heap.size W w':=by
 have hlv:=fun(w:World) (h:Below W.heap.size W w)=>Yi1 hU h
 have hsg:=fun(w:World) (h:Below W.heap.size W w)=>Ygo hU hF h
 obtain⟨w,rfl⟩:∃w:World,w=W:=⟨_,rfl⟩;obtain⟨A0,c0,A1,c1,A2,c2,rfl,l0,l1,l2,-,-,-,r0,r1,r2⟩:=id hF.open_;unfold Len at *;clear r0 r1 r2;have hb0:=(Br w.heap.size w).alloc (Nr _) (.cells #[.slice A0 F.vars.length c0,.slice A1 F.params.length c1,.slice A2 F.blocks.length c2] 26);have HX0:=Lh (BoxAt.new w #[.slice A0 F.vars.length c0,.slice A1 F.params.length c1,.slice A2 F.blocks.length c2] 26);cases hx:(Ya2 F&&YaC F)
 · as_aux_lemma=>
   rw[hx]at hsg;clear hx hF hnum;go_enter Tryz.func4,Tryz.ntmps4;go_wp2_with fail;refine(hlv _ hb0).mono ?_;rintro e w1 ⟨rfl,hb1⟩;have hx1:=HX0.out.below hb1 HX0.out.lt;have hB1:=hb0.trans (hb1.mono hb0.size);have q0:=hx1.cell 0;have q1:=hx1.cell 1;have q2:=hx1.cell 2;have ql:=hx1.lt;simp at q0 q1 q2;go_wp2_with fail;refine(hsg _ hB1).mono ?_;rintro e w2 ⟨rfl,hb2⟩;have hB2:=hB1.trans (hb2.mono hB1.size);clear q0 q1 q2 ql;go_wp2_with fail;refine(hlv _ hB2).mono ?_;rintro e w3 ⟨rfl,hb3⟩;have hB3:=hB2.trans (hb3.mono hB2.size);go_wp2;go_ret;exact⟨rfl,hB3⟩
 as_aux_lemma=>
 have hx2:Ya2 F=true∧YaC F=true:=by simpa using hx
 have hx3:Yv F=true∧Yd F=true:=by have:=hx2.1;unfold Ya2 at this;simpa using this
 have hR:Yao F=true:=by rw[YeN,hx3.2,hx2.2];rfl
 have hT:=hx3.2;have hO:=(Yjg hR).2.2;have hS:=Yde hx3.1;have hBn:=YeF hx3.1;rw[hx]at hsg;have hmg:=fun(w':World) (h:Below w.heap.size w w')=>YeJ hU hF h hS hBn hnum
 unfold Ydi at hmg;rw[hR]at hmg;have HGT:=Lh (YgE hT hO);have HGO:=Lh (YgF hT hO);have HGF:=Lh (YpM hT hO hx3.1);have HGP:=Lh (YpN hT hx2.2);have HGS:=Lh (fun(b:PBlock) (hb:b∈(mrgF F).blocks)=>YjQ hT hO hb);have HGI:=Lh (YpP hT hO)
 have HGN:=Lh (show ∀b∈(mrgF F).blocks,∀x∈b.insts,(Lit.int .i64 x.num).wf=true from fun b hb x hx=>by
  obtain⟨a,ha,rfl⟩:=List.mem_map.1 hb
  exact hnum a ha x (YeQ (Ycb hT hO ha) x hx))
 have HU:=Lh hU;clear hx hx2 hx3 hR hT hO hF hS hBn hnum hU;go_enter Tryz.func4,Tryz.ntmps4;go_wp2_with fail;refine(hlv _ hb0).mono ?_;rintro e w1 ⟨rfl,hb1⟩;have hx1:=HX0.out.below hb1 HX0.out.lt;have hB1:=hb0.trans (hb1.mono hb0.size);have q0:=hx1.cell 0;have q1:=hx1.cell 1;have q2:=hx1.cell 2;have ql:=hx1.lt;simp at q0 q1 q2;go_wp2_with fail;refine(hsg _ hB1).mono ?_;rintro e w2 ⟨rfl,hb2⟩;have hx2:=hx1.below hb2 hx1.lt;have hB2:=hB1.trans (hb2.mono hB1.size);clear q0 q1 q2 ql hb1 hb2 hx1 hB1 hlv hsg;have q0:=hx2.cell 0;have q1:=hx2.cell 1;have q2:=hx2.cell 2;have ql:=hx2.lt;simp at q0 q1 q2;go_wp2_with fail;refine(hmg _ hB2).mono ?_;rintro e w5 ⟨⟨h,-⟩|⟨-,gv,rfl,hG⟩,hb5⟩
 · cases h
 obtain⟨G,hGe⟩:∃G,G=mrgF F:=⟨_,rfl⟩;rw[← hGe]at hG HGT HGO HGF HGP HGS HGI HGN;clear hGe;obtain⟨B0,d0,B1,d1,B2,d2,rfl,m0,m1,m2,-,-,-,-,-,r2⟩:=id hG.open_;unfold Len at m0 m1 m2;have hB5:=hB2.trans (hb5.mono hB2.size);have hU5:=HU.out.below hB5;have HRT:=Lh (fun(w':World) (h:Below w5.heap.size w5 w')=>Yiz hU5 hG h (Yde HGF.out));rw[HGT.out]at HRT;have HRP:=Lh (fun(w':World) (h:Below w5.heap.size w5 w')=>Ygo hU5 hG h);rw[show(Ya2 G&&YaC G)=true by rw[Ya2,HGF.out,HGT.out,HGP.out];rfl]at HRP;have HRF:=Lh (fun(w':World) (h:Below w5.heap.size w5 w') (x:PInst) (hx:OkI x) (A:Option Addr) (c:Nat) (D:Nat→Prop) (hd:DInts w' D (.slice A x.args.length c) x.args)=>Yi9 hG h HGT.out hx hd);have hmg2:=fun(w':World) (h:Below w5.heap.size w5 w')=>YeJ hU5 hG h (Yde HGF.out) (YeF HGF.out) HGN.out
 unfold Ydi at hmg2;rw[show Yao G=true by rw[YeN,HGT.out,HGP.out];rfl,HGI.out]at hmg2;have HMG:=Lh hmg2;have HSM:=Lh (fun(W':World) (hW':Below w5.heap.size w5 W') (hv:Value) (hH:FnV W' W'.heap.size hv G) (w':World) (h:Below W'.heap.size W' w')=>Yjf (hG.keep (Kept.of_below hW') hW'.size) hH h);have nv:=Yb5 HGT.out;have HOK:=Lh (fun(i:Nat) (hi:i<G.blocks.length)=>YeI HGT.out ZO hi);have HFAR:=Lh (fun(i:Nat) (hi:i<G.blocks.length) (k j:Nat)=>YpQ (k:=k) (j:=j) HGT.out HGO.out (HGS.out _ (Y4 hi)) (HOK.out i hi));have HIL:=Lh (fun(i:Nat) (hi:i<G.blocks.length)=>Ygr HGT.out hi);have HR2:=Lh r2;clear r2;obtain⟨w6,hw6⟩:∃w6:World,w6=w5.alloc (.cells #[.slice B0 G.vars.length d0,.slice B1 G.params.length d1,.slice B2 G.blocks.length d2] 26):=⟨_,rfl⟩;have hb6:Below w5.heap.size w5 w6:=by rw[hw6];exact YO _ _
 have hg6:BoxAt w6 w5.heap.size #[.slice B0 G.vars.length d0,.slice B1 G.params.length d1,.slice B2 G.blocks.length d2] 26:=by rw[hw6];exact BoxAt.new _ _ _
 have HB5:=Lh hB5;clear q0 q1 q2 ql hx2 hB2 hb5 hB5 hmg hmg2 hG hU5 HGT HGO HGF HGP HGS HGI HGN HU HX0 hb0
 go_upto_region 4 with fail
 go_loud (rw[← hw6])
 clear hw6;have q0:=hg6.cell 0;have q1:=hg6.cell 1;have q2:=hg6.cell 2;have ql:=hg6.lt;simp at q0 q1 q2;go_wp2_with(go_at_call 16;refine(HRT.out _ hb6).mono ?_;rintro e w7 ⟨rfl,hb7⟩;have hg7:=hg6.below hb7 hg6.lt;have hB7:=hb6.trans (hb7.mono hb6.size);clear q0 q1 q2 ql;have q0:=hg7.cell 0;have q1:=hg7.cell 1;have q2:=hg7.cell 2;have ql:=hg7.lt;simp at q0 q1 q2;clear hb7 hg6 hb6 HRT);go_wp2_with(go_at_call 13;refine(HRP.out _ hB7).mono ?_;rintro e w8 ⟨rfl,hb8⟩;have hg8:=hg7.below hb8 hg7.lt;have hB8:=hB7.trans (hb8.mono hB7.size);clear q0 q1 q2 ql;have q0:=hg8.cell 0;have q1:=hg8.cell 1;have q2:=hg8.cell 2;have ql:=hg8.lt;simp at q0 q1 q2;clear hb8 hg7 hB7 HRP);have HG8:=Lh hg8;have HB8:=Lh hB8;clear hg8 hB8;go_wp2_with fail;clear q0 q1 q2 ql
 go_loopw[41] (fun s wr=>∃n:Nat,s=.int .i64 n∧n≤G.blocks.length∧Below w8.heap.size w8 wr) (fun s _=>G.blocks.length-(intOf s).toNat)
 case atStart=>exact⟨0,rfl,Nz _,Br _ _⟩
 case round=>as_aux_lemma=>
  obtain⟨n,rfl,hn,hb⟩:=hrel
  by_cases hlt:n<G.blocks.length
  · as_aux_lemma=>
    have hWr:Below w5.heap.size w5 wr:=HB8.out.trans (hb.mono HB8.out.size);obtain⟨bb,off,A3,c3,A4,c4,rfl,hbb,hnz,hy0,hy1,hy2,hy3,hy4,hy5,hy6,l3,l4,k3,k4,r3,r4⟩:=HR2.out.blk hWr hlt;have hil:=HIL.out n hlt;have HWN:=Lh (fun(k:Nat) (hk:k<(G.blk n).insts.length) (w':World) (h:Below w5.heap.size w5 w')=>Yi2 (c:=c4) r4 ZO (fun x hx=>⟨(HOK.out n hlt x hx).1,(HOK.out n hlt x hx).2.1⟩) h k hk);have HR4:=Lh r4;unfold Len at l3 l4;obtain⟨wi,rfl⟩:∃wi:World,wi=wr:=⟨_,rfl⟩;obtain⟨wA,hwA⟩:∃wA:World,wA=wi.alloc (.cells #[.string (G.blk n).name,.slice A3 (G.blk n).phis.length c3,.slice A4 (G.blk n).insts.length c4,.int .i64 (G.blk n).term.kind,.int .i64 (G.blk n).term.var,.int .i64 (G.blk n).term.t0,.int .i64 (G.blk n).term.t1] 41):=⟨_,rfl⟩;have hbA:Below wi.heap.size wi wA:=by rw[hwA];exact YO _ _
    have oA:BoxAt wA wi.heap.size #[.string (G.blk n).name,.slice A3 (G.blk n).phis.length c3,.slice A4 (G.blk n).insts.length c4,.int .i64 (G.blk n).term.kind,.int .i64 (G.blk n).term.var,.int .i64 (G.blk n).term.t0,.int .i64 (G.blk n).term.t1] 41:=by rw[hwA];exact BoxAt.new _ _ _
    have HGA:=Lh ((HG8.out.below hb HG8.out.lt).below hbA (HG8.out.below hb HG8.out.lt).lt);have HVA:=Lh (hWr.trans (hbA.mono hWr.size));have HBA:=Lh (hb.trans (hbA.mono hb.size));have HOA:=Lh oA;have hsA:=hb.size;clear r3 r4 hnz hWr hb hbA
    go_upto_region 9 with fail
    go_loud (rw[← hwA])
    clear hwA hy0 hy1 hy2 hy3 hy4 hy5 hy6;have z2:=oA.cell 2;have zl:=oA.lt;simp at z2;clear oA;go_wp2_with fail;clear z2 zl
    go_loopw[48] (fun s wr=>∃k:Nat,s=.int .i64 k∧k≤(G.blk n).insts.length∧Below wA.heap.size wA wr) (fun s _=>(G.blk n).insts.length-(intOf s).toNat)
    case atStart=>exact⟨0,rfl,Nz _,Br _ _⟩
    case round=>as_aux_lemma=>
     obtain⟨k,rfl,hk,hb⟩:=hrel
     by_cases hkl:k<(G.blk n).insts.length
     · as_aux_lemma=>
       have hVr:Below w5.heap.size w5 wr:=HVA.out.trans (hb.mono HVA.out.size);obtain⟨bi,oi,A5,c5,rfl,hbi,hp0,hp1,hp2,hp3,l5,k5,r5⟩:=HR4.out.inst hVr hkl;have HSX:=Lh (⟨_,_,rfl,l5,k5,r5⟩:SInts w5 w5.heap.size (.slice A5 ((G.blk n).inst k).args.length c5) ((G.blk n).inst k).args);have HXK:=Lh (HOK.out n hlt _ (Yar hkl));have HFK:=Lh (fun(j:Nat)=>HFAR.out n hlt k j hkl);have hWK:=HWN.out k hkl;have hwl:=YcT (l:=(G.blk n).insts.drop (k+1));rw[List.length_drop]at hwl;obtain⟨x,hx⟩:∃x,x=(G.blk n).inst k:=⟨_,rfl⟩;rw[← hx]at HSX HXK HFK hp0 hp1 hp2 hp3 l5 k5 r5;obtain⟨N,hN⟩:∃N,N=Yl ((G.blk n).insts.drop (k+1)):=⟨_,rfl⟩;rw[← hN]at HFK hWK hwl;have HWK:=Lh hWK;unfold Len at l5;clear hx hN hWK r5;obtain⟨wk,rfl⟩:∃wk:World,wk=wr:=⟨_,rfl⟩;obtain⟨wB,hwB⟩:∃wB:World,wB=wk.alloc (.cells #[.int .i64 x.op,.int .i64 x.dst,.slice A5 x.args.length c5,.int .i64 x.num] 44):=⟨_,rfl⟩;have hbB:Below wk.heap.size wk wB:=by rw[hwB];exact YO _ _
       have oB:BoxAt wB wk.heap.size #[.int .i64 x.op,.int .i64 x.dst,.slice A5 x.args.length c5,.int .i64 x.num] 44:=by rw[hwB];exact BoxAt.new _ _ _
       have HVB:=Lh (hVr.trans (hbB.mono hVr.size));have HBB:=Lh (hb.trans (hbB.mono hb.size));have HGB:=Lh (HGA.out.below HBB.out HGA.out.lt);have HOB:=Lh oB;have hsB:=hb.size;have hg:=HGB.out;have g0:=hg.cell 0;have g1:=hg.cell 1;have g2:=hg.cell 2;have gl:=hg.lt;have x0:=oB.cell 0;have x1:=oB.cell 1;have x2:=oB.cell 2;have x3:=oB.cell 3;have xl:=oB.lt;simp at g0 g1 g2 x0 x1 x2 x3;clear hb hVr hbB oB hg
       go_upto_region 12 with fail
       go_loud (rw[← hwB])
       clear hwB hp0 hp1 hp2 hp3;have HD:=Lh (YeV HSX.out HVB.out);obtain⟨fx,hfx⟩:∃fx,fx=Yav G x:=⟨_,rfl⟩;have HFX:=Lh hfx;have hcl:=HRF.out wB HVB.out x HXK.out A5 c5 _ HD.out;rw[← hfx]at hcl;clear hfx;go_wp2_with fail;refine hcl.mono ?_;rintro e w9 ⟨rfl,hb9⟩;have HB9:=Lh (HBB.out.trans (hb9.mono HBB.out.size));have HV9:=Lh (HVB.out.trans (hb9.mono HVB.out.size))
       by_cases h0:fx<0
       · as_aux_lemma=>
         have dx0:decide (fx<0)=true:=decide_eq_true h0;clear hb9 h0 g0 g1 g2 gl x0 x1 x2 x3 xl hcl;go_wp2_with fail;go_roundw
         case rel=>exact⟨k+1,ZN,hkl,HB9.out⟩
         case measure=>simp[intOf];omega
       · have dx0:decide (fx<0)=false:=decide_eq_false h0
         have HX0:=Lh (show 0≤Yav G x by have:=HFX.out;omega);have hoB:=HOB.out.below hb9 HOB.out.lt;have hoA:=HOA.out.below HB9.out HOA.out.lt;have hgB:=HGB.out.below hb9 HGB.out.lt;have a2:=hoA.cell 2;have al:=hoA.lt;simp at a2;have HO9:=Lh hoB;have HG9:=Lh hgB;have hN2:k+1+N≤c4:=by omega
         have hN3:N≤1048576:=by omega
         have hki:(k:Int)<((G.blk n).insts.length:Int):=by omega
         clear hb9 h0 g0 g1 g2 gl x0 x1 x2 x3 xl hcl hoB hoA hgB;have hw1:IntKind.i64.wrap ((k:Int)+1)=(k:Int)+1:=by rw[IntKind.wrap_i64]<;>omega
         go_upto_region 13 with fail
         by_cases hck:c4=k+1
         · as_aux_lemma=>
           have hN0:N=0:=by omega
           subst hN0;subst hck;have HW0:=Lh (show ∀w',Below w5.heap.size w5 w'→Calls Tryz.prog 18 #[.slice (some ⟨bi,oi,none⟩) (G.blk n).insts.length (k+1),.int .i64 (k:Int)] w' fun e w''=>e=.returned (.int .i64 0)∧Below w'.heap.size w' w'' from HWK.out);refine Yig [57,58,59,60,61,62,63,64,65,66,67,68,69,70] (fun i w' v'=>(([fun _ v'=>v'=.pointer (some ⟨wi.heap.size,2,none⟩),fun _ v'=>v'=.slice (some ⟨bi,oi,none⟩) (G.blk n).insts.length (k+1),fun _ v'=>v'=.int .i64 k,fun _ v'=>v'=.int .i64 ((k:Int)+1),fun _ v'=>v'=.int .i64 k,fun _ v'=>v'=.int .i64 ((k:Int)+1),fun _ v'=>v'=.pointer (some ⟨wi.heap.size,2,none⟩),fun _ v'=>v'=.slice (some ⟨bi,oi,none⟩) (G.blk n).insts.length (k+1),fun _ v'=>v'=.int .i64 k,fun _ v'=>v'=.int .i64 0,fun _ v'=>v'=.int .i64 ((k:Int)+1),fun _ v'=>v'=.slice (some ⟨bi,oi,none⟩) 0 0,fun _ v'=>v'=.int .i64 0,fun _ v'=>v'=.int .i64 0]:List (World→Value→Prop)).getD i (fun _ _=>True)) w' v') ZK ZK ZK ZD ?mono ?step ?fin
           case mono=>
            intro i w1 w2 v hi hb h
            match i,hi,h with
            |0,_,h=>exact h
            |1,_,h=>exact h
            |2,_,h=>exact h
            |3,_,h=>exact h
            |4,_,h=>exact h
            |5,_,h=>exact h
            |6,_,h=>exact h
            |7,_,h=>exact h
            |8,_,h=>exact h
            |9,_,h=>exact h
            |10,_,h=>exact h
            |11,_,h=>exact h
            |12,_,h=>exact h
            |13,_,h=>exact h
            |k+14,hi,_=>exact absurd hi (Nat.not_lt_of_le (Nat.le_add_left _ _))
           case step=>
            intro i o vs w1 ho hl hb hp K hK;have hl0:vs.length=14:=hl;clear hl;obtain⟨v0,r0,rfl,hl1⟩:=Ye (n:=13) hl0;obtain⟨v1,r1,rfl,hl2⟩:=Ye (n:=12) hl1;obtain⟨v2,r2,rfl,hl3⟩:=Ye (n:=11) hl2;obtain⟨v3,r3,rfl,hl4⟩:=Ye (n:=10) hl3;obtain⟨v4,r4,rfl,hl5⟩:=Ye (n:=9) hl4;obtain⟨v5,r5,rfl,hl6⟩:=Ye (n:=8) hl5;obtain⟨v6,r6,rfl,hl7⟩:=Ye (n:=7) hl6;obtain⟨v7,r7,rfl,hl8⟩:=Ye (n:=6) hl7;obtain⟨v8,r8,rfl,hl9⟩:=Ye (n:=5) hl8;obtain⟨v9,r9,rfl,hl10⟩:=Ye (n:=4) hl9;obtain⟨v10,r10,rfl,hl11⟩:=Ye (n:=3) hl10;obtain⟨v11,r11,rfl,hl12⟩:=Ye (n:=2) hl11;obtain⟨v12,r12,rfl,hl13⟩:=Ye (n:=1) hl12;obtain⟨v13,r13,rfl,hl14⟩:=Ye (n:=0) hl13;obtain rfl:=List.eq_nil_of_length_eq_zero hl14;clear hl0 hl1 hl2 hl3 hl4 hl5 hl6 hl7 hl8 hl9 hl10 hl11 hl12 hl13 hl14
            match i,ho,hp with
            |0,ho,hp=>
             obtain rfl:=Option.some.inj ho;clear hp;simp only[Yc,Act.put,La,Lz,Lc];go_simp
             try go_wp2
             refine hK.out (.pointer (some ⟨wi.heap.size,2,none⟩)) _ _ ?_ ZE rfl;simp only[Yc,Act.put,La,Lz,Lc]
            |1,ho,hp=>
             obtain rfl:=Option.some.inj ho;have q0:v0=.pointer (some ⟨wi.heap.size,2,none⟩):=hp 0 ZK;obtain rfl:=q0;clear hp;simp only[Yc,Act.put,La,Lz,Lc];have z0:=(hb.cell (p:=⟨wi.heap.size,2,none⟩) al).trans a2;have zl:wi.heap.size<w1.heap.size:=Nt al hb.size;go_simp
             try go_wp2
             refine hK.out (.slice (some ⟨bi,oi,none⟩) (G.blk n).insts.length (k+1)) _ _ ?_ ZE rfl;simp only[Yc,Act.put,La,Lz,Lc]
            |2,ho,hp=>
             obtain rfl:=Option.some.inj ho;clear hp;simp only[Yc,Act.put,La,Lz,Lc];go_simp
             try go_wp2
             refine hK.out (.int .i64 k) _ _ ?_ ZE rfl;simp only[Yc,Act.put,La,Lz,Lc]
            |3,ho,hp=>
             obtain rfl:=Option.some.inj ho;have q2:v2=.int .i64 k:=hp 2 ZK;obtain rfl:=q2;clear hp;simp only[Yc,Act.put,La,Lz,Lc];go_simp;refine hK.out (.int .i64 ((k:Int)+1)) _ _ ?_ ZE rfl;simp only[Yc,Act.put,La,Lz,Lc]
            |4,ho,hp=>
             obtain rfl:=Option.some.inj ho;clear hp;simp only[Yc,Act.put,La,Lz,Lc];go_simp
             try go_wp2
             refine hK.out (.int .i64 k) _ _ ?_ ZE rfl;simp only[Yc,Act.put,La,Lz,Lc]
            |5,ho,hp=>
             obtain rfl:=Option.some.inj ho;have q4:v4=.int .i64 k:=hp 4 ZK;obtain rfl:=q4;clear hp;simp only[Yc,Act.put,La,Lz,Lc];go_simp;refine hK.out (.int .i64 ((k:Int)+1)) _ _ ?_ ZE rfl;simp only[Yc,Act.put,La,Lz,Lc]
            |6,ho,hp=>
             obtain rfl:=Option.some.inj ho;clear hp;simp only[Yc,Act.put,La,Lz,Lc];go_simp
             try go_wp2
             refine hK.out (.pointer (some ⟨wi.heap.size,2,none⟩)) _ _ ?_ ZE rfl;simp only[Yc,Act.put,La,Lz,Lc]
            |7,ho,hp=>
             obtain rfl:=Option.some.inj ho;have q6:v6=.pointer (some ⟨wi.heap.size,2,none⟩):=hp 6 ZK;obtain rfl:=q6;clear hp;simp only[Yc,Act.put,La,Lz,Lc];have z0:=(hb.cell (p:=⟨wi.heap.size,2,none⟩) al).trans a2;have zl:wi.heap.size<w1.heap.size:=Nt al hb.size;go_simp
             try go_wp2
             refine hK.out (.slice (some ⟨bi,oi,none⟩) (G.blk n).insts.length (k+1)) _ _ ?_ ZE rfl;simp only[Yc,Act.put,La,Lz,Lc]
            |8,ho,hp=>
             obtain rfl:=Option.some.inj ho;clear hp;simp only[Yc,Act.put,La,Lz,Lc];go_simp
             try go_wp2
             refine hK.out (.int .i64 k) _ _ ?_ ZE rfl;simp only[Yc,Act.put,La,Lz,Lc]
            |9,ho,hp=>
             obtain rfl:=Option.some.inj ho;have q7:v7=.slice (some ⟨bi,oi,none⟩) (G.blk n).insts.length (k+1):=hp 7 ZK;have q8:v8=.int .i64 k:=hp 8 ZK;obtain rfl:=q7;obtain rfl:=q8;clear hp;simp only[Yc,Act.put,La,Lz,Lc];go_simp;go_at_call 18;refine(HW0.out _ (HV9.out.trans (hb.mono HV9.out.size))).mono ?_;rintro e w8 ⟨rfl,hb8⟩;refine hK.out (.int .i64 0) _ _ ?_ (hb8) (rfl);simp only[Yc,Act.put,La,Lz,Lc]
            |10,ho,hp=>
             obtain rfl:=Option.some.inj ho;have q5:v5=.int .i64 ((k:Int)+1):=hp 5 ZK;have q9:v9=.int .i64 0:=hp 9 ZK;obtain rfl:=q5;obtain rfl:=q9;clear hp;simp only[Yc,Act.put,La,Lz,Lc];go_simp;refine hK.out (.int .i64 ((k:Int)+1)) _ _ ?_ ZE rfl;simp only[Yc,Act.put,La,Lz,Lc]
            |11,ho,hp=>
             obtain rfl:=Option.some.inj ho;have q1:v1=.slice (some ⟨bi,oi,none⟩) (G.blk n).insts.length (k+1):=hp 1 ZK;have q3:v3=.int .i64 ((k:Int)+1):=hp 3 ZK;have q10:v10=.int .i64 ((k:Int)+1):=hp 10 ZK;obtain rfl:=q1;obtain rfl:=q3;obtain rfl:=q10;clear hp;simp only[Yc,Act.put,La,Lz,Lc];go_simp
             try go_wp2
             refine hK.out (.slice (some ⟨bi,oi,none⟩) 0 0) _ _ ?_ ZE rfl;simp only[Yc,Act.put,La,Lz,Lc]
            |12,ho,hp=>
             obtain rfl:=Option.some.inj ho;have q11:v11=.slice (some ⟨bi,oi,none⟩) 0 0:=hp 11 ZK;obtain rfl:=q11;clear hp;simp only[Yc,Act.put,La,Lz,Lc];go_simp
             try go_wp2
             refine hK.out (.int .i64 0) _ _ ?_ ZE rfl;simp only[Yc,Act.put,La,Lz,Lc]
            |13,ho,hp=>
             obtain rfl:=Option.some.inj ho;clear hp;simp only[Yc,Act.put,La,Lz,Lc];go_simp
             try go_wp2
             refine hK.out (.int .i64 0) _ _ ?_ ZE rfl;simp only[Yc,Act.put,La,Lz,Lc]
            |k+14,ho,_=>cases ho
           case fin=>
            intro vs w1 hl hb1 hp;have hl0:vs.length=14:=hl;clear hl;obtain⟨v0,r0,rfl,hl1⟩:=Ye (n:=13) hl0;obtain⟨v1,r1,rfl,hl2⟩:=Ye (n:=12) hl1;obtain⟨v2,r2,rfl,hl3⟩:=Ye (n:=11) hl2;obtain⟨v3,r3,rfl,hl4⟩:=Ye (n:=10) hl3;obtain⟨v4,r4,rfl,hl5⟩:=Ye (n:=9) hl4;obtain⟨v5,r5,rfl,hl6⟩:=Ye (n:=8) hl5;obtain⟨v6,r6,rfl,hl7⟩:=Ye (n:=7) hl6;obtain⟨v7,r7,rfl,hl8⟩:=Ye (n:=6) hl7;obtain⟨v8,r8,rfl,hl9⟩:=Ye (n:=5) hl8;obtain⟨v9,r9,rfl,hl10⟩:=Ye (n:=4) hl9;obtain⟨v10,r10,rfl,hl11⟩:=Ye (n:=3) hl10;obtain⟨v11,r11,rfl,hl12⟩:=Ye (n:=2) hl11;obtain⟨v12,r12,rfl,hl13⟩:=Ye (n:=1) hl12;obtain⟨v13,r13,rfl,hl14⟩:=Ye (n:=0) hl13;obtain rfl:=List.eq_nil_of_length_eq_zero hl14;clear hl0 hl1 hl2 hl3 hl4 hl5 hl6 hl7 hl8 hl9 hl10 hl11 hl12 hl13 hl14;have q0:v0=.pointer (some ⟨wi.heap.size,2,none⟩):=hp 0 (of_decide_eq_true ZK);have q1:v1=.slice (some ⟨bi,oi,none⟩) (G.blk n).insts.length (k+1):=hp 1 (of_decide_eq_true ZK);have q2:v2=.int .i64 k:=hp 2 (of_decide_eq_true ZK);have q3:v3=.int .i64 ((k:Int)+1):=hp 3 (of_decide_eq_true ZK);have q4:v4=.int .i64 k:=hp 4 (of_decide_eq_true ZK);have q5:v5=.int .i64 ((k:Int)+1):=hp 5 (of_decide_eq_true ZK);have q6:v6=.pointer (some ⟨wi.heap.size,2,none⟩):=hp 6 (of_decide_eq_true ZK);have q7:v7=.slice (some ⟨bi,oi,none⟩) (G.blk n).insts.length (k+1):=hp 7 (of_decide_eq_true ZK);have q8:v8=.int .i64 k:=hp 8 (of_decide_eq_true ZK);have q9:v9=.int .i64 0:=hp 9 (of_decide_eq_true ZK);have q10:v10=.int .i64 ((k:Int)+1):=hp 10 (of_decide_eq_true ZK);have q11:v11=.slice (some ⟨bi,oi,none⟩) 0 0:=hp 11 (of_decide_eq_true ZK);have q12:v12=.int .i64 0:=hp 12 (of_decide_eq_true ZK);have q13:v13=.int .i64 0:=hp 13 (of_decide_eq_true ZK);obtain rfl:=q0;obtain rfl:=q1;obtain rfl:=q2;obtain rfl:=q3;obtain rfl:=q4;obtain rfl:=q5;obtain rfl:=q6;obtain rfl:=q7;obtain rfl:=q8;obtain rfl:=q9;obtain rfl:=q10;obtain rfl:=q11;obtain rfl:=q12;obtain rfl:=q13;clear hp;simp only[Yc,Act.put,La,Lz,Lc];have HC:=Lh (HB9.out.trans (hb1.mono HB9.out.size));clear hb1 a2 al;go_wp2_with fail
            go_loopw[70] (fun s wr=>s=.int .i64 0∧Below wA.heap.size wA wr) (fun s _=>0)
            case atStart=>exact⟨rfl,HC.out⟩
            case round=>as_aux_lemma=>
             obtain⟨rfl,hbc⟩:=hrel;go_wp2_with fail;go_roundw
             case rel=>exact⟨k+1,ZN,hkl,hbc⟩
             case measure=>simp[intOf];omega
         · as_aux_lemma=>
           have hw2:IntKind.i64.wrap ((k:Int)+1+(N:Int))=(k:Int)+1+(N:Int):=by rw[IntKind.wrap_i64]<;>omega
           refine Yig [57,58,59,60,61,62,63,64,65,66,67,68,69,70] (fun i w' v'=>(([fun _ v'=>v'=.pointer (some ⟨wi.heap.size,2,none⟩),fun _ v'=>v'=.slice (some ⟨bi,oi,none⟩) (G.blk n).insts.length c4,fun _ v'=>v'=.int .i64 k,fun _ v'=>v'=.int .i64 ((k:Int)+1),fun _ v'=>v'=.int .i64 k,fun _ v'=>v'=.int .i64 ((k:Int)+1),fun _ v'=>v'=.pointer (some ⟨wi.heap.size,2,none⟩),fun _ v'=>v'=.slice (some ⟨bi,oi,none⟩) (G.blk n).insts.length c4,fun _ v'=>v'=.int .i64 k,fun _ v'=>v'=.int .i64 N,fun _ v'=>v'=.int .i64 ((k:Int)+1+N),fun _ v'=>v'=.slice (some ⟨bi,oi+(k+1)*4,none⟩) N (c4-(k+1)),fun _ v'=>v'=.int .i64 N,fun _ v'=>v'=.int .i64 0]:List (World→Value→Prop)).getD i (fun _ _=>True)) w' v') ZK ZK ZK ZD ?mono ?step ?fin
           case mono=>
            intro i w1 w2 v hi hb h
            match i,hi,h with
            |0,_,h=>exact h
            |1,_,h=>exact h
            |2,_,h=>exact h
            |3,_,h=>exact h
            |4,_,h=>exact h
            |5,_,h=>exact h
            |6,_,h=>exact h
            |7,_,h=>exact h
            |8,_,h=>exact h
            |9,_,h=>exact h
            |10,_,h=>exact h
            |11,_,h=>exact h
            |12,_,h=>exact h
            |13,_,h=>exact h
            |k+14,hi,_=>exact absurd hi (Nat.not_lt_of_le (Nat.le_add_left _ _))
           case step=>
            intro i o vs w1 ho hl hb hp K hK;have hl0:vs.length=14:=hl;clear hl;obtain⟨v0,r0,rfl,hl1⟩:=Ye (n:=13) hl0;obtain⟨v1,r1,rfl,hl2⟩:=Ye (n:=12) hl1;obtain⟨v2,r2,rfl,hl3⟩:=Ye (n:=11) hl2;obtain⟨v3,r3,rfl,hl4⟩:=Ye (n:=10) hl3;obtain⟨v4,r4,rfl,hl5⟩:=Ye (n:=9) hl4;obtain⟨v5,r5,rfl,hl6⟩:=Ye (n:=8) hl5;obtain⟨v6,r6,rfl,hl7⟩:=Ye (n:=7) hl6;obtain⟨v7,r7,rfl,hl8⟩:=Ye (n:=6) hl7;obtain⟨v8,r8,rfl,hl9⟩:=Ye (n:=5) hl8;obtain⟨v9,r9,rfl,hl10⟩:=Ye (n:=4) hl9;obtain⟨v10,r10,rfl,hl11⟩:=Ye (n:=3) hl10;obtain⟨v11,r11,rfl,hl12⟩:=Ye (n:=2) hl11;obtain⟨v12,r12,rfl,hl13⟩:=Ye (n:=1) hl12;obtain⟨v13,r13,rfl,hl14⟩:=Ye (n:=0) hl13;obtain rfl:=List.eq_nil_of_length_eq_zero hl14;clear hl0 hl1 hl2 hl3 hl4 hl5 hl6 hl7 hl8 hl9 hl10 hl11 hl12 hl13 hl14
            match i,ho,hp with
            |0,ho,hp=>
             obtain rfl:=Option.some.inj ho;clear hp;simp only[Yc,Act.put,La,Lz,Lc];go_simp
             try go_wp2
             refine hK.out (.pointer (some ⟨wi.heap.size,2,none⟩)) _ _ ?_ ZE rfl;simp only[Yc,Act.put,La,Lz,Lc]
            |1,ho,hp=>
             obtain rfl:=Option.some.inj ho;have q0:v0=.pointer (some ⟨wi.heap.size,2,none⟩):=hp 0 ZK;obtain rfl:=q0;clear hp;simp only[Yc,Act.put,La,Lz,Lc];have z0:=(hb.cell (p:=⟨wi.heap.size,2,none⟩) al).trans a2;have zl:wi.heap.size<w1.heap.size:=Nt al hb.size;go_simp
             try go_wp2
             refine hK.out (.slice (some ⟨bi,oi,none⟩) (G.blk n).insts.length c4) _ _ ?_ ZE rfl;simp only[Yc,Act.put,La,Lz,Lc]
            |2,ho,hp=>
             obtain rfl:=Option.some.inj ho;clear hp;simp only[Yc,Act.put,La,Lz,Lc];go_simp
             try go_wp2
             refine hK.out (.int .i64 k) _ _ ?_ ZE rfl;simp only[Yc,Act.put,La,Lz,Lc]
            |3,ho,hp=>
             obtain rfl:=Option.some.inj ho;have q2:v2=.int .i64 k:=hp 2 ZK;obtain rfl:=q2;clear hp;simp only[Yc,Act.put,La,Lz,Lc];go_simp;refine hK.out (.int .i64 ((k:Int)+1)) _ _ ?_ ZE rfl;simp only[Yc,Act.put,La,Lz,Lc]
            |4,ho,hp=>
             obtain rfl:=Option.some.inj ho;clear hp;simp only[Yc,Act.put,La,Lz,Lc];go_simp
             try go_wp2
             refine hK.out (.int .i64 k) _ _ ?_ ZE rfl;simp only[Yc,Act.put,La,Lz,Lc]
            |5,ho,hp=>
             obtain rfl:=Option.some.inj ho;have q4:v4=.int .i64 k:=hp 4 ZK;obtain rfl:=q4;clear hp;simp only[Yc,Act.put,La,Lz,Lc];go_simp;refine hK.out (.int .i64 ((k:Int)+1)) _ _ ?_ ZE rfl;simp only[Yc,Act.put,La,Lz,Lc]
            |6,ho,hp=>
             obtain rfl:=Option.some.inj ho;clear hp;simp only[Yc,Act.put,La,Lz,Lc];go_simp
             try go_wp2
             refine hK.out (.pointer (some ⟨wi.heap.size,2,none⟩)) _ _ ?_ ZE rfl;simp only[Yc,Act.put,La,Lz,Lc]
            |7,ho,hp=>
             obtain rfl:=Option.some.inj ho;have q6:v6=.pointer (some ⟨wi.heap.size,2,none⟩):=hp 6 ZK;obtain rfl:=q6;clear hp;simp only[Yc,Act.put,La,Lz,Lc];have z0:=(hb.cell (p:=⟨wi.heap.size,2,none⟩) al).trans a2;have zl:wi.heap.size<w1.heap.size:=Nt al hb.size;go_simp
             try go_wp2
             refine hK.out (.slice (some ⟨bi,oi,none⟩) (G.blk n).insts.length c4) _ _ ?_ ZE rfl;simp only[Yc,Act.put,La,Lz,Lc]
            |8,ho,hp=>
             obtain rfl:=Option.some.inj ho;clear hp;simp only[Yc,Act.put,La,Lz,Lc];go_simp
             try go_wp2
             refine hK.out (.int .i64 k) _ _ ?_ ZE rfl;simp only[Yc,Act.put,La,Lz,Lc]
            |9,ho,hp=>
             obtain rfl:=Option.some.inj ho;have q7:v7=.slice (some ⟨bi,oi,none⟩) (G.blk n).insts.length c4:=hp 7 ZK;have q8:v8=.int .i64 k:=hp 8 ZK;obtain rfl:=q7;obtain rfl:=q8;clear hp;simp only[Yc,Act.put,La,Lz,Lc];go_simp;go_at_call 18;refine(HWK.out _ (HV9.out.trans (hb.mono HV9.out.size))).mono ?_;rintro e w8 ⟨rfl,hb8⟩;refine hK.out (.int .i64 N) _ _ ?_ (hb8) (rfl);simp only[Yc,Act.put,La,Lz,Lc]
            |10,ho,hp=>
             obtain rfl:=Option.some.inj ho;have q5:v5=.int .i64 ((k:Int)+1):=hp 5 ZK;have q9:v9=.int .i64 N:=hp 9 ZK;obtain rfl:=q5;obtain rfl:=q9;clear hp;simp only[Yc,Act.put,La,Lz,Lc];go_simp;refine hK.out (.int .i64 ((k:Int)+1+N)) _ _ ?_ ZE rfl;simp only[Yc,Act.put,La,Lz,Lc]
            |11,ho,hp=>
             obtain rfl:=Option.some.inj ho;have q1:v1=.slice (some ⟨bi,oi,none⟩) (G.blk n).insts.length c4:=hp 1 ZK;have q3:v3=.int .i64 ((k:Int)+1):=hp 3 ZK;have q10:v10=.int .i64 ((k:Int)+1+N):=hp 10 ZK;obtain rfl:=q1;obtain rfl:=q3;obtain rfl:=q10;clear hp;simp only[Yc,Act.put,La,Lz,Lc];go_simp
             try go_wp2
             refine hK.out (.slice (some ⟨bi,oi+(k+1)*4,none⟩) N (c4-(k+1))) _ _ ?_ ZE rfl;simp only[Yc,Act.put,La,Lz,Lc]
            |12,ho,hp=>
             obtain rfl:=Option.some.inj ho;have q11:v11=.slice (some ⟨bi,oi+(k+1)*4,none⟩) N (c4-(k+1)):=hp 11 ZK;obtain rfl:=q11;clear hp;simp only[Yc,Act.put,La,Lz,Lc];go_simp
             try go_wp2
             refine hK.out (.int .i64 N) _ _ ?_ ZE rfl;simp only[Yc,Act.put,La,Lz,Lc]
            |13,ho,hp=>
             obtain rfl:=Option.some.inj ho;clear hp;simp only[Yc,Act.put,La,Lz,Lc];go_simp
             try go_wp2
             refine hK.out (.int .i64 0) _ _ ?_ ZE rfl;simp only[Yc,Act.put,La,Lz,Lc]
            |k+14,ho,_=>cases ho
           case fin=>
            intro vs w1 hl hb1 hp;have hl0:vs.length=14:=hl;clear hl;obtain⟨v0,r0,rfl,hl1⟩:=Ye (n:=13) hl0;obtain⟨v1,r1,rfl,hl2⟩:=Ye (n:=12) hl1;obtain⟨v2,r2,rfl,hl3⟩:=Ye (n:=11) hl2;obtain⟨v3,r3,rfl,hl4⟩:=Ye (n:=10) hl3;obtain⟨v4,r4,rfl,hl5⟩:=Ye (n:=9) hl4;obtain⟨v5,r5,rfl,hl6⟩:=Ye (n:=8) hl5;obtain⟨v6,r6,rfl,hl7⟩:=Ye (n:=7) hl6;obtain⟨v7,r7,rfl,hl8⟩:=Ye (n:=6) hl7;obtain⟨v8,r8,rfl,hl9⟩:=Ye (n:=5) hl8;obtain⟨v9,r9,rfl,hl10⟩:=Ye (n:=4) hl9;obtain⟨v10,r10,rfl,hl11⟩:=Ye (n:=3) hl10;obtain⟨v11,r11,rfl,hl12⟩:=Ye (n:=2) hl11;obtain⟨v12,r12,rfl,hl13⟩:=Ye (n:=1) hl12;obtain⟨v13,r13,rfl,hl14⟩:=Ye (n:=0) hl13;obtain rfl:=List.eq_nil_of_length_eq_zero hl14;clear hl0 hl1 hl2 hl3 hl4 hl5 hl6 hl7 hl8 hl9 hl10 hl11 hl12 hl13 hl14;have q0:v0=.pointer (some ⟨wi.heap.size,2,none⟩):=hp 0 (of_decide_eq_true ZK);have q1:v1=.slice (some ⟨bi,oi,none⟩) (G.blk n).insts.length c4:=hp 1 (of_decide_eq_true ZK);have q2:v2=.int .i64 k:=hp 2 (of_decide_eq_true ZK);have q3:v3=.int .i64 ((k:Int)+1):=hp 3 (of_decide_eq_true ZK);have q4:v4=.int .i64 k:=hp 4 (of_decide_eq_true ZK);have q5:v5=.int .i64 ((k:Int)+1):=hp 5 (of_decide_eq_true ZK);have q6:v6=.pointer (some ⟨wi.heap.size,2,none⟩):=hp 6 (of_decide_eq_true ZK);have q7:v7=.slice (some ⟨bi,oi,none⟩) (G.blk n).insts.length c4:=hp 7 (of_decide_eq_true ZK);have q8:v8=.int .i64 k:=hp 8 (of_decide_eq_true ZK);have q9:v9=.int .i64 N:=hp 9 (of_decide_eq_true ZK);have q10:v10=.int .i64 ((k:Int)+1+N):=hp 10 (of_decide_eq_true ZK);have q11:v11=.slice (some ⟨bi,oi+(k+1)*4,none⟩) N (c4-(k+1)):=hp 11 (of_decide_eq_true ZK);have q12:v12=.int .i64 N:=hp 12 (of_decide_eq_true ZK);have q13:v13=.int .i64 0:=hp 13 (of_decide_eq_true ZK);obtain rfl:=q0;obtain rfl:=q1;obtain rfl:=q2;obtain rfl:=q3;obtain rfl:=q4;obtain rfl:=q5;obtain rfl:=q6;obtain rfl:=q7;obtain rfl:=q8;obtain rfl:=q9;obtain rfl:=q10;obtain rfl:=q11;obtain rfl:=q12;obtain rfl:=q13;clear hp;simp only[Yc,Act.put,La,Lz,Lc];have HC:=Lh (HB9.out.trans (hb1.mono HB9.out.size));have HVC:=Lh (HV9.out.trans (hb1.mono HV9.out.size));have HOC:=Lh (HO9.out.below hb1 HO9.out.lt);have HGC:=Lh (HG9.out.below hb1 HG9.out.lt);obtain⟨wC,rfl⟩:∃wC:World,wC=w1:=⟨_,rfl⟩;clear hb1 a2 al;go_wp2_with fail
            go_loopw[70] (fun s wr=>∃j:Nat,s=.int .i64 j∧j≤N∧Below wC.heap.size wC wr) (fun s _=>N-(intOf s).toNat)
            case atStart=>exact⟨0,rfl,Nz _,Br _ _⟩
            case round=>as_aux_lemma=>
             obtain⟨j,rfl,hj,hbc⟩:=hrel
             by_cases hjl:j<N
             · as_aux_lemma=>
               have hVj:=HVC.out.trans (hbc.mono HVC.out.size);obtain⟨by_,oy,A6,c6,ey,hby,hq0,hq1,hq2,hq3,l6,k6,r6⟩:=HR4.out.inst hVj (show k+1+j<(G.blk n).insts.length from ZO);injection ey with ey
               injection ey with ey1 ey2
               subst ey1 ey2;rw[show oi+(k+1+j)*4=oi+(k+1)*4+j*4 from ZO]at hq0 hq1 hq2 hq3;have HSY:=Lh (⟨_,_,rfl,l6,k6,r6⟩:SInts w5 w5.heap.size (.slice A6 ((G.blk n).inst (k+1+j)).args.length c6) ((G.blk n).inst (k+1+j)).args);have HYK:=Lh (HOK.out n hlt _ (Yar (show k+1+j<(G.blk n).insts.length from ZO)));have HFJ:=Lh (HFK.out j hjl HX0.out);obtain⟨y,hy⟩:∃y,y=(G.blk n).inst (k+1+j):=⟨_,rfl⟩;rw[← hy]at HSY HYK HFJ hq0 hq1 hq2 hq3 l6 k6 r6;unfold Len at l6;clear hy r6;obtain⟨wj,rfl⟩:∃wj:World,wj=wr:=⟨_,rfl⟩;obtain⟨wD,hwD⟩:∃wD:World,wD=wj.alloc (.cells #[.int .i64 y.op,.int .i64 y.dst,.slice A6 y.args.length c6,.int .i64 y.num] 44):=⟨_,rfl⟩;have hbD:Below wj.heap.size wj wD:=by rw[hwD];exact YO _ _
               have oD:BoxAt wD wj.heap.size #[.int .i64 y.op,.int .i64 y.dst,.slice A6 y.args.length c6,.int .i64 y.num] 44:=by rw[hwD];exact BoxAt.new _ _ _
               have HVD:=Lh (hVj.trans (hbD.mono hVj.size));have HBD:=Lh (hbc.trans (hbD.mono hbc.size));have hgD:=HGC.out.below HBD.out HGC.out.lt;have hoC:=HOC.out.below HBD.out HOC.out.lt;have g0:=hgD.cell 0;have g1:=hgD.cell 1;have g2:=hgD.cell 2;have gl:=hgD.lt;have x2:=hoC.cell 2;have xl:=hoC.lt;have y0:=oD.cell 0;have y1:=oD.cell 1;have y2:=oD.cell 2;have y3:=oD.cell 3;have yl:=oD.lt;simp at g0 g1 g2 x2 y0 y1 y2 y3;clear hbc hVj hbD oD hgD hoC
               go_upto_region 16 with fail
               go_loud (rw[← hwD])
               clear hwD hq0 hq1 hq2 hq3;have HDY:=Lh (YeV HSY.out HVD.out);obtain⟨fy,hfy⟩:∃fy,fy=Yav G y:=⟨_,rfl⟩;have HFY:=Lh hfy;have HCL:=Lh (fun(w':World) (h:Below w5.heap.size w5 w')=>HRF.out w' h y HYK.out A6 c6 _ (YeV HSY.out h));have HBE:=Lh (HC.out.trans (HBD.out.mono HC.out.size));rw[← hfy]at HCL;clear hfy
               by_cases h1:0≤fy
               · as_aux_lemma=>
                 have dx1:decide (0≤fy)=true:=decide_eq_true h1
                 have HNE:=Lh (show(ith y.args 0==ith x.args 0)=false by
                  rw[beq_eq_false_iff_ne]
                  exact HFJ.out (by rw[← HFY.out];exact h1))
                 obtain⟨yb,yo,rfl,hyb,hyc,hyl⟩:=YjS HYK.out (YjR (by rw[← HFY.out];exact h1)) HDY.out;obtain⟨xb,xo,rfl,hxb,hxc,hxl⟩:=YjS HXK.out (YjR HX0.out) (YeV HSX.out HVD.out);have hne:=HNE.out;have hyz:(0:Int)<(y.args.length:Int):=by omega
                 have hxz:(0:Int)<(x.args.length:Int):=by omega
                 generalize ith y.args 0=py at *;generalize ith x.args 0=px at *;clear h1;obtain⟨S0,hS0⟩:∃S0:World→Prop,S0=fun w'=>w'.cell? ⟨w5.heap.size,0,none⟩=some (.slice B0 G.vars.length d0)∧w'.cell? ⟨w5.heap.size,1,none⟩=some (.slice B1 G.params.length d1)∧w'.cell? ⟨w5.heap.size,2,none⟩=some (.slice (some ⟨bb,off,none⟩) G.blocks.length d2)∧w'.cell? ⟨wj.heap.size,0,none⟩=some (.int .i64 y.op)∧w'.cell? ⟨wj.heap.size,1,none⟩=some (.int .i64 y.dst)∧w'.cell? ⟨wj.heap.size,2,none⟩=some (.slice (some ⟨yb,yo,none⟩) y.args.length c6)∧w'.cell? ⟨wj.heap.size,3,none⟩=some (.int .i64 y.num)∧w'.cell? ⟨wk.heap.size,2,none⟩=some (.slice (some ⟨xb,xo,none⟩) x.args.length c5)∧w'.cell? ⟨yb,yo,none⟩=some (.int .i64 py)∧w'.cell? ⟨xb,xo,none⟩=some (.int .i64 px)∧Below wD.heap.size wD w'∧w5.heap.size<w'.heap.size∧wj.heap.size<w'.heap.size∧wk.heap.size<w'.heap.size∧yb<w'.heap.size∧xb<w'.heap.size:=⟨_,rfl⟩
                 have HS0:=Lh hS0;clear hS0;have k0:=fun xw=>(WS.at HS0 xw).1
                 have k1:=fun xw=>(WS.at HS0 xw).2.1
                 have k2:=fun xw=>(WS.at HS0 xw).2.2.1
                 have k3:=fun xw=>(WS.at HS0 xw).2.2.2.1
                 have k4:=fun xw=>(WS.at HS0 xw).2.2.2.2.1
                 have k5:=fun xw=>(WS.at HS0 xw).2.2.2.2.2.1
                 have k6:=fun xw=>(WS.at HS0 xw).2.2.2.2.2.2.1
                 have k7:=fun xw=>(WS.at HS0 xw).2.2.2.2.2.2.2.1
                 have k8:=fun xw=>(WS.at HS0 xw).2.2.2.2.2.2.2.2.1
                 have k9:=fun xw=>(WS.at HS0 xw).2.2.2.2.2.2.2.2.2.1
                 have k10:=fun xw=>(WS.at HS0 xw).2.2.2.2.2.2.2.2.2.2.1
                 have k11:=fun xw=>(WS.at HS0 xw).2.2.2.2.2.2.2.2.2.2.2.1
                 have k12:=fun xw=>(WS.at HS0 xw).2.2.2.2.2.2.2.2.2.2.2.2.1
                 have k13:=fun xw=>(WS.at HS0 xw).2.2.2.2.2.2.2.2.2.2.2.2.2.1
                 have k14:=fun xw=>(WS.at HS0 xw).2.2.2.2.2.2.2.2.2.2.2.2.2.2.1
                 have k15:=fun xw=>(WS.at HS0 xw).2.2.2.2.2.2.2.2.2.2.2.2.2.2.2
                 refine Yz (S:=S0) [0,1,2,3,4,5,6,7,8,9,10,11,12,13,14] ZK ZK (fun _ _ _ _ _ h=>h) ?hS (fun hSc=>?_)
                 case hS=>
                  rw[HS0.out];exact⟨ZI,ZI,ZI,ZI,ZI,ZI,ZI,ZI,ZI,ZI,BL,ZJ,ZJ,ZJ,ZJ,ZJ⟩
                 have hne0:Nonempty (WS S0):=⟨⟨_,hSc⟩⟩;simp only[List.map_cons,List.map_nil,Ld,Le]
                 repeat
                  first
                  |((with_reducible refine YA ?_ ?_);exact rfl;go_big_quiet_step (fail);(try with_reducible refine wpQuiet_nil ?_);(try dsimp only))
                  |((with_reducible refine YF ?_ ?_ (fun K hK=>?_))
                    exact rfl;exact rfl;go_simp;(try go_wp2_with(go_at_call 17;refine(HCL.out _ (HVD.out.trans (Below.mono BL HVD.out.size))).mono ?_;rintro e wv ⟨rfl,hbv⟩;have hb9:=hbv;obtain⟨hc9,hf9⟩:=Ya hb9;have hz9:=hb9.size;(try simp at hz9)));refine hK.out _ _ ?hS (fun hSc=>?_)
                    case hS=>
                     first
                     |exact hSc
                     |(rw[HS0.out]at hSc ⊢;obtain⟨p0,p1,p2,p3,p4,p5,p6,p7,p8,p9,p10,p11,p12,p13,p14,p15⟩:=hSc;exact⟨ZC0,ZC1,ZC2,ZC3,ZC4,ZC5,ZC6,(by first|exact(hc9 _ _ ZB).trans p7|exact ZC),(by first|exact(hc9 _ _ ZB).trans p8|exact ZC),(by first|exact(hc9 _ _ ZB).trans p9|exact ZC),(by first|exact p10.trans (hb9.mono (by have:=p10.size;first|omega|(simp at this ⊢;omega)))|exact BL),(by first|exact Nt p11 hb9.size|exact ZT),(by first|exact Nt p12 hb9.size|exact ZT),(by first|exact Nt p13 hb9.size|exact ZT),(by first|exact Nt p14 hb9.size|exact ZT),(by first|exact Nt p15 hb9.size|exact ZT)⟩)
                    clear hK K)
                 refine YB ?_;rw[HS0.out]at hSc;obtain⟨p0,p1,p2,p3,p4,p5,p6,p7,p8,p9,p10,p11,p12,p13,p14,p15⟩:=hSc;clear hne0 HS0 k0 k1 k2 k3 k4 k5 k6 k7 k8 k9 k10 k11 k12 k13 k14 k15;have HP:=Lh p10;clear p10 HCL;go_wp2_with fail;go_roundw
                 case rel=>exact⟨j+1,ZN,hjl,HBD.out.trans (HP.out.mono HBD.out.size)⟩
                 case measure=>simp[intOf];omega
               · as_aux_lemma=>
                 have dx1:decide (0≤fy)=false:=decide_eq_false h1;clear h1 x2 xl;obtain⟨S0,hS0⟩:∃S0:World→Prop,S0=fun w'=>w'.cell? ⟨w5.heap.size,0,none⟩=some (.slice B0 G.vars.length d0)∧w'.cell? ⟨w5.heap.size,1,none⟩=some (.slice B1 G.params.length d1)∧w'.cell? ⟨w5.heap.size,2,none⟩=some (.slice (some ⟨bb,off,none⟩) G.blocks.length d2)∧w'.cell? ⟨wj.heap.size,0,none⟩=some (.int .i64 y.op)∧w'.cell? ⟨wj.heap.size,1,none⟩=some (.int .i64 y.dst)∧w'.cell? ⟨wj.heap.size,2,none⟩=some (.slice A6 y.args.length c6)∧w'.cell? ⟨wj.heap.size,3,none⟩=some (.int .i64 y.num)∧Below wD.heap.size wD w'∧w5.heap.size<w'.heap.size∧wj.heap.size<w'.heap.size:=⟨_,rfl⟩
                 have HS0:=Lh hS0;clear hS0;have k0:=fun xw=>(WS.at HS0 xw).1
                 have k1:=fun xw=>(WS.at HS0 xw).2.1
                 have k2:=fun xw=>(WS.at HS0 xw).2.2.1
                 have k3:=fun xw=>(WS.at HS0 xw).2.2.2.1
                 have k4:=fun xw=>(WS.at HS0 xw).2.2.2.2.1
                 have k5:=fun xw=>(WS.at HS0 xw).2.2.2.2.2.1
                 have k6:=fun xw=>(WS.at HS0 xw).2.2.2.2.2.2.1
                 have k7:=fun xw=>(WS.at HS0 xw).2.2.2.2.2.2.2.1
                 have k8:=fun xw=>(WS.at HS0 xw).2.2.2.2.2.2.2.2.1
                 have k9:=fun xw=>(WS.at HS0 xw).2.2.2.2.2.2.2.2.2
                 refine Yz (S:=S0) [0,1,2,3,4,5,6,7,8,9,10,11,12,13,14] ZK ZK (fun _ _ _ _ _ h=>h) ?hS (fun hSc=>?_)
                 case hS=>
                  rw[HS0.out];exact⟨ZI,ZI,ZI,ZI,ZI,ZI,ZI,BL,ZJ,ZJ⟩
                 have hne0:Nonempty (WS S0):=⟨⟨_,hSc⟩⟩;simp only[List.map_cons,List.map_nil,Ld,Le]
                 repeat
                  first
                  |((with_reducible refine YA ?_ ?_);exact rfl;go_big_quiet_step (fail);(try with_reducible refine wpQuiet_nil ?_);(try dsimp only))
                  |((with_reducible refine YF ?_ ?_ (fun K hK=>?_))
                    exact rfl;exact rfl;go_simp;(try go_wp2_with(go_at_call 17;refine(HCL.out _ (HVD.out.trans (Below.mono BL HVD.out.size))).mono ?_;rintro e wv ⟨rfl,hbv⟩;have hb9:=hbv;obtain⟨hc9,hf9⟩:=Ya hb9;have hz9:=hb9.size;(try simp at hz9)));refine hK.out _ _ ?hS (fun hSc=>?_)
                    case hS=>
                     first
                     |exact hSc
                     |(rw[HS0.out]at hSc ⊢;obtain⟨p0,p1,p2,p3,p4,p5,p6,p7,p8,p9⟩:=hSc;exact⟨ZC0,ZC1,ZC2,ZC3,ZC4,ZC5,ZC6,ZL7,ZT8,ZT9⟩)
                    clear hK K)
                 refine YB ?_;rw[HS0.out]at hSc;obtain⟨p0,p1,p2,p3,p4,p5,p6,p7,p8,p9⟩:=hSc;clear hne0 HS0 k0 k1 k2 k3 k4 k5 k6 k7 k8 k9;have HP:=Lh p7;clear p7 HCL;go_wp2_with fail;go_roundw
                 case rel=>exact⟨j+1,ZN,hjl,HBD.out.trans (HP.out.mono HBD.out.size)⟩
                 case measure=>simp[intOf];omega
             · as_aux_lemma=>
               have HB:=Lh (HC.out.trans (hbc.mono HC.out.size));clear hbc;go_wp2_with fail;go_roundw
               case rel=>exact⟨k+1,ZN,hkl,HB.out⟩
               case measure=>simp[intOf];omega
     · as_aux_lemma=>
       obtain rfl:k=(G.blk n).insts.length:=by omega
       have HB:=Lh (HBA.out.trans (hb.mono HBA.out.size));clear hb;go_wp2_with fail;go_roundw
       case rel=>exact⟨n+1,ZN,hlt,HB.out⟩
       case measure=>simp[intOf];omega
  · as_aux_lemma=>
    obtain rfl:n=G.blocks.length:=by omega
    have hg:=HG8.out.below hb HG8.out.lt;have q0:=hg.cell 0;have q1:=hg.cell 1;have q2:=hg.cell 2;have ql:=hg.lt;simp at q0 q1 q2;have hVr:Below w5.heap.size w5 wr:=HB8.out.trans (hb.mono HB8.out.size);obtain⟨wz,rfl⟩:∃wz:World,wz=wr:=⟨_,rfl⟩;have HG:=Lh hg;have HV:=Lh hVr;clear hg hb hVr;go_wp2_with fail;refine(HMG.out _ HV.out).mono ?_;rintro e w10 ⟨⟨h,-⟩|⟨-,hv,rfl,hH⟩,hb10⟩
    · cases h
    obtain⟨D0,e0,D1,e1,D2,e2,rfl,-⟩:=id hH.open_;obtain⟨w11,hw11⟩:∃w11:World,w11=w10.alloc (.cells #[.slice D0 G.vars.length e0,.slice D1 G.params.length e1,.slice D2 G.blocks.length e2] 26):=⟨_,rfl⟩;have hb11:Below w10.heap.size w10 w11:=by rw[hw11];exact YO _ _
    have o11:BoxAt w11 w10.heap.size #[.slice D0 G.vars.length e0,.slice D1 G.params.length e1,.slice D2 G.blocks.length e2] 26:=by rw[hw11];exact BoxAt.new _ _ _
    have hg10:=HG.out.below hb10 HG.out.lt;have hg11:=hg10.below hb11 hg10.lt;have hV10:=HV.out.trans (hb10.mono HV.out.size);have HSM2:=Lh (HSM.out w10 hV10 _ hH w11 hb11);have HV11:=Lh (hV10.trans (hb11.mono hV10.size));clear q0 q1 q2 ql hg10 hV10 hH hb10 hb11
    go_upto_region 22 with fail
    go_loud (rw[← hw11])
    clear hw11;have q0:=hg11.cell 0;have q1:=hg11.cell 1;have q2:=hg11.cell 2;have ql:=hg11.lt;have p0:=o11.cell 0;have p1:=o11.cell 1;have p2:=o11.cell 2;have pl:=o11.lt;simp at q0 q1 q2 p0 p1 p2;clear hg11 o11;go_wp2_with fail;refine HSM2.out.mono ?_;rintro e w12 ⟨rfl,hb12⟩;have HB:=Lh (HB5.out.trans ((HV11.out.trans (hb12.mono HV11.out.size)).mono HB5.out.size));clear hb12;go_wp2;go_ret;exact⟨rfl,HB.out⟩
end Go.Proofs.YtjlclkcmfokobaaGreatDoor
