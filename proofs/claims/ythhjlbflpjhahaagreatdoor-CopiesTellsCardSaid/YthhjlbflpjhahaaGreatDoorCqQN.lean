/- The plain law of copies: a program with roots for variables, without some of its phis and instructions, is typed, joined and little as the program is. -/
import Derived.Test.YthhjlbflpjhahaaGreatDoorCpQN
import Derived.Test.YthhjlbflpjhahaaGreatDoorFewQN
import Derived.Test.YthhjlbflpjhahaaGreatDoorSBeN
import Derived.Test.YthhjlbflpjhahaaGreatDoorMemTN
import Derived.Test.YthhjlbflpjhahaaGreatDoorSRightN
namespace Go.Proofs.YthhjlbflpjhahaaGreatDoor
open Go.RowKit
set_option maxRecDepth 100000
def gB(kp:PPhi→Bool)(ki:PInst→Bool)(m:Int→Int)(b:PBlock):PBlock:=⟨b.name,(b.phis.filter kp).map (clP m),(b.insts.filter ki).map (clI m),clT m b.term⟩
def gF(kp:PPhi→Bool)(ki:PInst→Bool)(m:Int→Int)(F:PFunc):PFunc:={ F with blocks:=F.blocks.map (gB kp ki m) }
structure MOk (F:PFunc) (m:Int→Int):Prop where
 rg:∀v,inV F v→inV F (m v)
 ty:∀v,Ye F (m v)=Ye F v
section
variable {F:PFunc} {rk:Int→Nat} {m:Int→Int} {kp:PPhi→Bool} {ki:PInst→Bool} {v:Int}
theorem YcE:inB v F.vars.length=true↔inV F v:=by
 unfold inB inV;simp
theorem mOk(hT:Yc F=true)(hC:CpI F rk m):MOk F m:=by
 refine⟨hC.rg,fun v=>(hC.snd (fun u v=>Ye F u=Ye F v) ⟨fun _=>rfl,fun h=>h.symm,fun h h'=>h.trans h',fun b hb x hx hc=>?_,fun b hb p hp z hall hex=>?_⟩ v).symm⟩
 · unfold Yc at hT
   simp only[Bool.and_eq_true,List.all_eq_true]at hT;have h1:=hT.2 b hb;unfold blkT at h1;simp only[Bool.and_eq_true,List.all_eq_true]at h1;have h2:=h1.1.2 x hx;unfold YF at h2;rw[if_pos (of_decide_eq_true hc),beq_iff_eq]at h2;exact h2
 · unfold Yc at hT
   simp only[Bool.and_eq_true,List.all_eq_true]at hT;have h1:=hT.2 b hb;unfold blkT at h1;simp only[Bool.and_eq_true,List.all_eq_true]at h1;have h2:=h1.1.1 p hp;unfold Y8 at h2;rw[List.all_eq_true]at h2;obtain⟨a,ha,e⟩:=hex;have h3:=h2 a ha;rw[beq_iff_eq]at h3;exact h3.symm.trans e
theorem Ye1:clF m F=gF (fun p=>decide (m p.dst=p.dst)) (fun x=>decide (m x.dst=x.dst)) m F:=rfl
theorem YaD:(gF kp ki m F).blocks.length=F.blocks.length:=by simp[gF]
theorem YaW{i:Nat}:(gF kp ki m F).blk i=gB kp ki m (F.blk i):=by
 unfold PFunc.blk gF;simp only[List.getD_eq_getElem?_getD,List.getElem?_map];cases F.blocks[i]?<;>rfl
theorem Ye2{b:PBlock}:b∈(gF kp ki m F).blocks↔∃a∈F.blocks,gB kp ki m a=b:=List.mem_map
theorem YaX{t:PTerm}:(clT m t).kind=t.kind∧(clT m t).t0=t.t0∧(clT m t).t1=t.t1:=by
 unfold clT;split<;>exact⟨rfl,rfl,rfl⟩
theorem Ye3{t:PTerm}(h:t.kind≠0):(clT m t).var=m t.var:=by
 unfold clT;rw[if_neg h]
theorem YgQ{t:PTerm}(h:t.kind=0):clT m t=t:=by
 unfold clT;rw[if_pos h]
theorem Yk3:Y6 (gF kp ki m F)=Y6 F:=by
 have h:bnames (gF kp ki m F)=bnames F:=by
  unfold bnames gF;simp only[List.map_map];rfl
 unfold Y6;rw[h,YaD];rfl
theorem YgR(hM:MOk F m){l:List Int}(h:Yq F l=true):Yq (gF kp ki m F) (l.map m)=true:=by
 unfold Yq at *;rw[List.all_eq_true]at *;intro v hv;obtain⟨a,ha,rfl⟩:=List.mem_map.1 hv;exact YcE.2 (hM.rg a (YcE.1 (h a ha)))
theorem Yk4(hM:MOk F m){b:PBlock}(h:Y7 F b=true):Y7 (gF kp ki m F) (gB kp ki m b)=true:=by
 unfold Y7 at *;simp only[Bool.and_eq_true,Bool.not_eq_true',List.any_eq_false]at h ⊢;refine⟨⟨fun x hx=>?_,fun x hx=>?_⟩,?_⟩
 · obtain⟨p,hp,rfl⟩:=List.mem_map.1 hx
   have h1:=h.1.1 p (List.mem_filter.1 hp).1;have h2:Yw F p=true:=by simpa using h1
   have:Yw (gF kp ki m F) (clP m p)=true:=by
    unfold Yw Ycm at h2 ⊢;rw[YaD];simp only[Bool.and_eq_true,decide_eq_true_eq]at h2 ⊢;exact⟨⟨⟨⟨by simpa[clP]using h2.1.1.1.1,by simpa[clP]using h2.1.1.1.2⟩,h2.1.1.2⟩,YgR hM h2.1.2⟩,h2.2⟩
   simpa using this
 · obtain⟨p,hp,rfl⟩:=List.mem_map.1 hx
   have h1:=h.1.2 p (List.mem_filter.1 hp).1;have h2:Yg F p=true:=by simpa using h1
   have:Yg (gF kp ki m F) (clI m p)=true:=by
    unfold Yg at h2 ⊢;simp only[Bool.and_eq_true,decide_eq_true_eq]at h2 ⊢;exact⟨⟨⟨⟨h2.1.1.1.1,by simpa[clI]using h2.1.1.1.2⟩,YgR hM h2.1.1.2⟩,h2.1.2⟩,h2.2⟩
   simpa using this
 · have h3:=h.2
   show YE (gF kp ki m F) (clT m b.term)=true;unfold YE at h3 ⊢;rw[YaD,YaX.1,YaX.2.1,YaX.2.2]
   by_cases h0:b.term.kind=0
   · rw[YgQ h0]
     exact h3
   · rw[Ye3 h0]
     rw[if_neg h0]at h3⊢
     by_cases e1:b.term.kind=1
     · rw[if_pos e1]at h3⊢
       simp only[Bool.and_eq_true]at h3 ⊢;exact⟨⟨YcE.2 (hM.rg _ (YcE.1 h3.1.1)),h3.1.2⟩,h3.2⟩
     · rw[if_neg e1]at h3⊢
       by_cases e2:b.term.kind=2
       · rw[if_pos e2]at h3⊢
         rw[Bool.and_eq_true]at h3 ⊢;exact⟨YcE.2 (hM.rg _ (YcE.1 h3.1)),h3.2⟩
       · rw[if_neg e2]at h3
         cases h3
theorem YgS:∀{bs:List PBlock},Yau (bs.map (gB kp ki m))≤Yau bs
 |[]=>Nr _
 |b::r=>by
  have ih:=YgS (bs:=r);have h1:=List.length_filter_le kp b.phis;have h2:=List.length_filter_le ki b.insts;simp only[List.map_cons,Yau,gB,List.length_map]at *;omega
theorem YgT(hM:MOk F m):∀{a b:List Int},YO (gF kp ki m F) (a.map m) b=YO F a b
 |[],_=>by simp[YO]
 |_::_,[]=>by simp[YO]
 |x::a,t::b=>by
  have ih:=YgT hM (a:=a) (b:=b);rw[List.map_cons,YO,YO,ih];show(Ye F (m x)==t&&_)=_;rw[hM.ty]
theorem YgU{l:List Int}{i:Nat}(hi:i<l.length):ith (l.map m) i=m (ith l i):=by simp[ith,List.getD_eq_getElem?_getD,hi]
theorem Yk5(hM:MOk F m)(h:Yc F=true):Yc (gF kp ki m F)=true:=by
 have hsh:=Yv h;unfold Yc at *;simp only[Bool.and_eq_true,List.all_eq_true]at h ⊢;refine⟨?_,fun b hb=>?_⟩
 · have h1:=h.1
   unfold Yf at *;simp only[Bool.and_eq_true,decide_eq_true_eq,List.all_eq_true]at h1 ⊢;refine⟨⟨by rw[Yk3];exact h1.1.1,fun b hb=>?_⟩,Nat.le_trans YgS h1.2⟩;obtain⟨a,ha,rfl⟩:=Ye2.1 hb;exact Yk4 hM (h1.1.2 a ha)
 · obtain⟨a,ha,rfl⟩:=Ye2.1 hb
   have h1:=h.2 a ha;have hbk:Y7 F a=true:=by
    unfold Yf at hsh;simp only[Bool.and_eq_true,decide_eq_true_eq,List.all_eq_true]at hsh;exact hsh.1.2 a ha
   unfold blkT at *;simp only[Bool.and_eq_true,List.all_eq_true]at h1 ⊢;refine⟨⟨fun x hx=>?_,fun x hx=>?_⟩,?_⟩
   · obtain⟨p,hp,rfl⟩:=List.mem_map.1 hx
     have h2:=h1.1.1 p (List.mem_filter.1 hp).1;unfold Y8 at *;rw[List.all_eq_true]at *;intro v hv;obtain⟨a,ha,rfl⟩:=List.mem_map.1 hv;have h3:=h2 a ha;show(Ye F (m a)==Ye F p.dst)=true;rw[hM.ty];exact h3
   · obtain⟨p,hp,rfl⟩:=List.mem_map.1 hx
     have hpm:=(List.mem_filter.1 hp).1;have h2:=h1.1.2 p hpm;unfold YF at *;show(if p.op=1 then Ye F p.dst==Ye F (ith (p.args.map m) 0) else YO (gF kp ki m F) (p.args.map m) (YD p.op)&&(!YX p.op||Ye F p.dst==YaZ p.op))=true
     by_cases e:p.op=1
     · rw[if_pos e]at h2⊢
       have hl:p.args.length=1:=by
        unfold Y7 at hbk;simp only[Bool.and_eq_true,Bool.not_eq_true',List.any_eq_false]at hbk;have h3:=hbk.1.2 p hpm;obtain⟨-,h4,-⟩:=Yb0 (show Yg F p=true by simpa using h3);rw[h4,e];decide
       rw[YgU ZO,hM.ty];exact h2
     · rw[if_neg e]at h2⊢
       rw[YgT hM];exact h2
   · have h2:=h1.2
     show Yah (gF kp ki m F) (clT m a.term)=true;unfold Yah at *;rw[YaX.1,YaX.2.1,YaX.2.2]
     by_cases h0:a.term.kind=0
     · rw[if_pos h0]at h2⊢
       exact h2
     · rw[if_neg h0]at h2⊢
       rw[Ye3 h0];show(if a.term.kind=1 then Ye F (m a.term.var)==1&&a.term.t0 !=0&&a.term.t1 !=0 else Ye F (m a.term.var)==0)=true;rw[hM.ty];exact h2
theorem Yk6(h:noPi F=true):noPi (gF kp ki m F)=true:=by
 unfold noPi at *;simp only[List.all_eq_true]at h ⊢;intro b hb;obtain⟨a,ha,rfl⟩:=Ye2.1 hb;intro x hx;obtain⟨p,hp,rfl⟩:=List.mem_map.1 hx;exact h a ha p (List.mem_filter.1 hp).1
theorem Yk7{t:PTerm}:endsOf (clT m t)=endsOf t:=by
 unfold endsOf;rw[YaX.1,YaX.2.1,YaX.2.2]
theorem Ye4:EN (gF kp ki m F)=EN F:=by
 funext i;unfold EN;rw[YaW,← Yk7 (m:=m) (t:=(F.blk i).term)];rfl
theorem Yk8:OR (gF kp ki m F)=OR F:=by
 unfold OR postO;rw[Ye4,YaD]
theorem Yk9:postO (gF kp ki m F)=postO F:=by
 unfold postO;rw[Ye4,YaD]
theorem YgV{b:Nat}:∀i,Yt (gF kp ki m F) b i=Yt F b i
 |0=>rfl
 |i+1=>by
  have h:leads ((gF kp ki m F).blk i).term (b:Int)=leads (F.blk i).term (b:Int):=by
   rw[YaW];show leads (clT m (F.blk i).term) (b:Int)=_;unfold leads;rw[YaX.1,YaX.2.1,YaX.2.2]
  unfold Yt;rw[YgV i,h]
theorem Yla:PR (gF kp ki m F)=PR F:=by
 funext b;unfold PR;rw[YgV,YaD]
theorem YgW:∀i,YY (gF kp ki m F) i=YY F i
 |0=>by unfold YY;rw[YaD]
 |i+1=>by unfold YY;rw[YgW i,Ye4]
theorem Ylb:tabB (gF kp ki m F)=tabB F:=by
 funext a b;unfold tabB Y1;rw[Yk8,Yla]
theorem Ylc(h:YU F=true):YU (gF kp ki m F)=true:=by
 unfold YU at *;rw[YaD];rw[List.all_eq_true]at *;intro i hi;have:=h i hi;rw[List.all_eq_true]at *;rw[YaW];intro x hx;obtain⟨p,hp,rfl⟩:=List.mem_map.1 hx;have:=this p (List.mem_filter.1 hp).1;unfold YaU Ya7 at *;rw[YgW,YaD];exact this
theorem YgX:∀{a:List PPhi},Yan ((a.filter kp).map (clP m))≤Yan a
 |[]=>Nr _
 |x::a=>by
  have ih:=YgX (a:=a);rw[List.filter_cons];split
  · simp only[List.map_cons,Yan,clP,List.length_map]at *
    omega
  · simp only[Yan]
    omega
theorem YgY:∀{a:List PInst},Yao ((a.filter ki).map (clI m))≤Yao a
 |[]=>Nr _
 |x::a=>by
  have ih:=YgY (a:=a);rw[List.filter_cons];split
  · simp only[List.map_cons,Yao,clI,List.length_map]at *
    omega
  · simp only[Yao]
    omega
theorem Ye5:∀{a:List PPhi} {k k':Nat},k'≤k→YaK k a=true→YaK k' ((a.filter kp).map (clP m))=true
 |[],_,_,_,_=>rfl
 |x::a,k,k',hm,h=>by
  simp only[YaK,Bool.and_eq_true,decide_eq_true_eq]at h;rw[List.filter_cons];split
  · simp only[List.map_cons,YaK,Bool.and_eq_true,decide_eq_true_eq,clP,List.length_map]
    exact⟨⟨⟨ZO,h.1.1.2⟩,h.1.2⟩,Ye5 ZO h.2⟩
  · exact Ye5 ZO h.2
theorem Ye6:∀{a:List PInst} {k k':Nat},k'≤k→YaB k a=true→YaB k' ((a.filter ki).map (clI m))=true
 |[],_,_,_,_=>rfl
 |x::a,k,k',hm,h=>by
  simp only[YaB,Bool.and_eq_true,decide_eq_true_eq]at h;rw[List.filter_cons];split
  · simp only[List.map_cons,YaB,Bool.and_eq_true,decide_eq_true_eq,clI,List.length_map]
    exact⟨⟨ZO,h.1.2⟩,Ye6 ZO h.2⟩
  · exact Ye6 ZO h.2
theorem YgZ:∀{bs:List PBlock} {k k':Nat},k'≤k→Y5 k bs=true→Y5 k' (bs.map (gB kp ki m))=true
 |[],_,_,_,_=>rfl
 |b::r,k,k',hm,h=>by
  have h1:=List.length_filter_le kp b.phis;have h2:=List.length_filter_le ki b.insts;have h3:Y4 (gB kp ki m b)≤Y4 b:=by
   simp only[Y4,gB,List.length_map];omega
  have h4:=YgX (kp:=kp) (m:=m) (a:=b.phis);have h5:=YgY (ki:=ki) (m:=m) (a:=b.insts);simp only[Y5,Yb9,Bool.and_eq_true,decide_eq_true_eq]at h;obtain⟨⟨⟨⟨⟨⟨a1,a2⟩,a3⟩,a4⟩,a5⟩,a6⟩,a7⟩:=h;rw[List.map_cons];simp only[Y5,Yb9,Bool.and_eq_true,decide_eq_true_eq];have e1:(gB kp ki m b).phis=(b.phis.filter kp).map (clP m):=rfl;have e2:(gB kp ki m b).insts=(b.insts.filter ki).map (clI m):=rfl;refine⟨⟨⟨⟨⟨⟨a1,?_⟩,?_⟩,?_⟩,?_⟩,?_⟩,?_⟩
  · rw[e1,List.length_map]
    omega
  · rw[e2,List.length_map]
    omega
  · exact Ye5 ZO a4
  · exact Ye6 (by rw[e1];omega) a5
  · rw[e1,e2]
    omega
  · exact YgZ (by rw[e1,e2];omega) a7
theorem Yld(h:Yr F=true):Yr (gF kp ki m F)=true:=by
 unfold Yr at *;rw[YaD];simp only[Bool.and_eq_true]at h ⊢;exact⟨h.1,YgZ (Nr _) h.2⟩
end
section
variable {α:Type} {p:α→Bool}
theorem Ye7:∀{xs:List α} {j:Nat} {x:α},xs[j]?=some x→p x=true→(xs.filter p)[((xs.take j).filter p).length]?=some x
 |[],_,_,h,_=>by simp at h
 |a::l,0,_,h,hp=>by
  simp only[List.getElem?_cons_zero,Option.some.injEq]at h;subst h;simp[hp]
 |a::l,k+1,_,h,hp=>by
  have ih:=Ye7 (xs:=l) (j:=k) (by simpa using h) hp;cases ha:p a<;>simp[ha,ih]
theorem Ye8:∀{xs:List α} {k:Nat},k<(xs.filter p).length→∃j x,xs[j]?=some x∧p x=true∧((xs.take j).filter p).length=k
 |[],k,h=>by simp at h
 |x::xs,k,h=>by
  rw[List.filter_cons]at h;split at h
  · rename_i hp
    cases k with
    |zero=>exact⟨0,x,rfl,hp,rfl⟩
    |succ k=>
     obtain⟨j,y,h1,h2,h3⟩:=Ye8 (xs:=xs) (k:=k) (by simpa using h);exact⟨j+1,y,by simpa using h1,h2,by rw[List.take_succ_cons,List.filter_cons,if_pos hp,List.length_cons,h3]⟩
  · rename_i hp
    obtain⟨j,y,h1,h2,h3⟩:=Ye8 (xs:=xs) (k:=k) h;exact⟨j+1,y,by simpa using h1,h2,by rw[List.take_succ_cons,List.filter_cons,if_neg hp,h3]⟩
theorem Yle{xs:List α}{j k:Nat}{x:α}(h:xs[j]?=some x)(hp:p x=true)(hk:j<k):((xs.take j).filter p).length<((xs.take k).filter p).length:=by
 have h1:((xs.take k).take j)=xs.take j:=by rw[List.take_take,Nat.min_eq_left ZO]
 have h2:(xs.take k)[j]?=some x:=by rw[List.getElem?_take,if_pos hk];exact h
 have h3:=Ye7 (p:=p) h2 hp;rw[h1]at h3;exact(List.getElem?_eq_some_iff.1 h3).1
end
section
variable {F:PFunc} {rk:Int→Nat} {m m':Int→Int} {kp:PPhi→Bool} {ki:PInst→Bool} {v:Int}
def YbU(ki:PInst→Bool)(b:PBlock)(j:Nat):Nat:=((b.insts.take j).filter ki).length
theorem Ye9{b:PBlock}{j:Nat}(hj:j<b.insts.length)(hk:ki (b.inst j)=true):YbU ki b j<(gB kp ki m b).insts.length∧(gB kp ki m b).inst (YbU ki b j)=clI m (b.inst j):=by
 have hg:=Ye7 (PBlock.inst_get hj) hk;refine⟨?_,?_⟩
 · show _<((b.insts.filter ki).map (clI m)).length
   rw[List.length_map];exact(List.getElem?_eq_some_iff.1 hg).1
 · unfold PBlock.inst
   rw[List.getD_eq_getElem?_getD];show((b.insts.filter ki).map (clI m))[_]?.getD _=_;unfold YbU;rw[List.getElem?_map,hg];rfl
theorem Yg0{b:PBlock}{k:Nat}(hk:k<(gB kp ki m b).insts.length):∃j,j<b.insts.length∧ki (b.inst j)=true∧YbU ki b j=k∧(gB kp ki m b).inst k=clI m (b.inst j):=by
 have hk2:k<(b.insts.filter ki).length:=by
  have:k<((b.insts.filter ki).map (clI m)).length:=hk
  rwa [List.length_map]at this
 obtain⟨j,x,h1,h2,h3⟩:=Ye8 hk2;have hj:=(List.getElem?_eq_some_iff.1 h1).1;have hx:b.inst j=x:=by unfold PBlock.inst;rw[List.getD_eq_getElem?_getD,h1];rfl
 rw[← hx]at h2;exact⟨j,hj,h2,h3,by rw[← h3];exact(Ye9 hj h2).2⟩
theorem Yg1{i:Nat}:(Yay F i).map (·.dst)=(F.blk i).phis.map (·.dst)++(F.blk i).insts.map (·.dst):=by
 unfold Yay evPhi evIns;rw[List.map_append,List.map_map,List.map_map];congr 1
 · refine List.ext_getElem ZS fun k h1 h2=>?_
   simp at h1;simp[PBlock.phi,h1]
 · refine List.ext_getElem ZS fun k h1 h2=>?_
   simp at h1;simp[PBlock.inst,h1]
theorem Yg2:∀n,((evs (gF kp ki m F) n).map (·.dst)).Sublist ((evs F n).map (·.dst))
 |0=>List.Sublist.refl _
 |n+1=>by
  unfold evs;rw[List.map_append,List.map_append,Yg1,Yg1,YaW];show((evs (gF kp ki m F) n).map (·.dst)++((((F.blk n).phis.filter kp).map (clP m)).map (·.dst)++(((F.blk n).insts.filter ki).map (clI m)).map (·.dst))).Sublist _;rw[List.map_map,List.map_map];exact(Yg2 n).append ((List.filter_sublist.map _).append (List.filter_sublist.map _))
theorem Yg3{e:List Ev}:(mkOf e v).length=((e.map (·.dst)).filter fun d=>d==v).length:=by
 unfold mkOf;rw[List.length_map,List.filter_map,List.length_map];rfl
theorem Yg4:(mkOf (evF (gF kp ki m F)) v).length≤(mkOf (evF F) v).length:=by
 rw[Yg3,Yg3];unfold evF;rw[YaD];exact((Yg2 _).filter _).length_le
theorem Ylf(h:YL F=true):YL (gF kp ki m F)=true:=by
 unfold YL at *;rw[List.all_eq_true]at *;intro v hv;have h1:=h v hv;have h2:=Yg4 (F:=F) (kp:=kp) (ki:=ki) (m:=m) (v:=(v:Int));unfold onceAt at *;simp only[Bool.not_eq_true',Bool.or_eq_false_iff,Bool.and_eq_false_iff,decide_eq_false_iff_not]at h1 ⊢;refine⟨ZO,?_⟩;rcases h1.2 with h3|h3
 · exact .inl ZO
 · exact .inr h3
theorem Ylg{i:Nat}{a:Int}(h:Yo (gF kp ki m F) v i a):∃a',Yo F v i a':=by
 obtain⟨hi,h⟩:=h;rw[YaD]at hi;rw[YaW]at h;rcases h with⟨-,x,hx,rfl⟩|⟨k,hk,-,rfl⟩
 · obtain⟨p,hp,rfl⟩:=List.mem_map.1 hx
   exact⟨-1,hi,.inl ⟨rfl,p,(List.mem_filter.1 hp).1,rfl⟩⟩
 · obtain⟨j,hj,-,-,e⟩:=Yg0 hk
   exact⟨j,hi,.inr ⟨j,hj,rfl,by rw[e];rfl⟩⟩
variable (hkp:∀b∈F.blocks,∀p∈b.phis,m p.dst=p.dst→kp p=true) (hki:∀b∈F.blocks,∀x∈b.insts,m x.dst=x.dst→ki x=true)
include hkp hki
theorem Yg5{T:Nat→Nat→Bool}{b:Nat}{at_ at':Int}(ho:YL F=true)(hv:inV F v)(hr:m v=v)(hm:-1<at')(hp:∀j:Nat,j<(F.blk b).insts.length→ki ((F.blk b).inst j)=true→(j:Int)<at_→(YbU ki (F.blk b) j:Int)<at')
 (h:Yl F T v b at_=true):Yl (gF kp ki m F) T v b at'=true:=by
 have hone:=Ybh ho hv.1 hv.2;have hone':(mkOf (evF (gF kp ki m F)) v).length≤1:=Nat.le_trans Yg4 hone;unfold Yl at *
 by_cases hex:∃i a,Yo F v i a
 · obtain⟨i,a,hk⟩:=hex
   have key:∀a',Yo (gF kp ki m F) v i a'→(i=b→a<at_→a'<at')→Yaz T (Yk (gF kp ki m F) v) b at'=true:=fun a' hk' hlt=>by
    rw[YaT hone hk]at h;rw[YaT hone' hk'];unfold Yaz at *;simp only at h ⊢;rw[if_neg ZO]at h⊢
    by_cases hib:(i:Int)=(b:Int)
    · rw[if_pos hib]at h⊢
      rw[decide_eq_true_eq]at h ⊢;exact hlt ZO h
    · rw[if_neg hib]at h⊢
      exact h
   obtain⟨hi,⟨rfl,p,hp1,rfl⟩|⟨j,hj,rfl,rfl⟩⟩:=hk
   · refine key (-1) ⟨by rw[YaD];exact hi,.inl ⟨rfl,clP m p,?_,rfl⟩⟩ fun _ _=>hm
     rw[YaW];exact List.mem_map.2 ⟨p,List.mem_filter.2 ⟨hp1,hkp _ (YG hi) p hp1 hr⟩,rfl⟩
   · have hkj:=hki _ (YG hi) _ (Ybe hj) hr
     obtain⟨h1,h2⟩:=Ye9 (kp:=kp) (m:=m) hj hkj;refine key (YbU ki (F.blk i) j) ⟨by rw[YaD];exact hi,.inr ⟨_,by rw[YaW];exact h1,rfl,by rw[YaW,h2];rfl⟩⟩ fun e hlt=>?_
     subst e;exact hp j hj hkj hlt
 · rw[YeD fun i a hk=>hex ⟨i,Ylg hk⟩]
   rfl
theorem Yg6{b:Nat}{T:Nat→Nat→Bool}(ho:YL F=true)(hv:inV F v)(hr:m v=v)(h:Yl F T v b ((F.blk b).insts.length:Int)=true):Yl (gF kp ki m F) T v b (((gF kp ki m F).blk b).insts.length:Int)=true:=by
 rw[YaW];refine Yg5 hkp hki ho hv hr ZO (fun j hj hk _=>?_) h;have:=(Ye9 (kp:=kp) (m:=m) hj hk).1;omega
variable (S:Sgl F) (hC:CpI F rk m) (H:CpH F rk)
include S hC H
theorem Ylh{i:Nat}(hi:i<F.blocks.length):Yu (gF kp ki m F) (tabB F) i=true:=by
 have hB:=S.B i hi;unfold Yu at *;simp only[Bool.and_eq_true]at hB ⊢;obtain⟨⟨-,-⟩,h3⟩:=hB;refine⟨⟨?_,?_⟩,?_⟩
 · rw[List.all_eq_true]
   rw[YaW];intro x hx;obtain⟨p,hp,rfl⟩:=List.mem_map.1 hx;have hp:=(List.mem_filter.1 hp).1;unfold YaN;rw[List.all_eq_true];intro k hk;have hk:k<p.args.length:=by simpa[clP]using List.mem_range.1 hk
   unfold pairOk;have hfr:=(Ydc S.T hi hp).2.2.2 k (by have:=(Ydc S.T hi hp).2.1;omega);have hx:ith p.froms k=((ith p.froms k).toNat:Int):=by omega
   have h1:=S.pair_ahead hi hp hk hx;have hv:=(H.g.ph _ (YG hi) p hp).2 _ (List.mem_of_getElem? (Yae hk));have e1:ith (clP m p).args k=m (ith p.args k):=YgU hk;rw[e1];exact Yg6 hkp hki S.O (hC.rg _ hv) (hC.idem _) (YeW S hC H hv h1)
 · rw[List.all_eq_true]
   intro k hk;have hk:=List.mem_range.1 hk;rw[YaW]at hk;obtain⟨j,hj,hkj,hidx,e⟩:=Yg0 hk;unfold instBe;rw[YaW,e,List.all_eq_true];intro v hv;obtain⟨a,ha,rfl⟩:=List.mem_map.1 hv;have h1:=S.inst_ahead hi hj ha;have hav:inV F a:=by
    obtain⟨n,hn,rfl⟩:=List.getElem_of_mem ha;have h3:=(Ycy S.T hi hj).2 n hn;simp only[ith,List.getD,hn,List.getElem?_eq_getElem,Option.getD_some]at h3;exact h3
   refine Yg5 hkp hki S.O (hC.rg _ hav) (hC.idem _) ZO (fun j2 hj2 hk2 hlt=>?_) (YeW S hC H hav h1);have h4:=Yle (p:=ki) (PBlock.inst_get hj2) hk2 (show j2<j from ZO);have h5:YbU ki (F.blk i) j2<YbU ki (F.blk i) j:=h4;omega
 · unfold Ycx at *
   have ht:((gF kp ki m F).blk i).term=clT m (F.blk i).term:=by rw[YaW];rfl
   rw[ht,YaX.1];rw[Bool.or_eq_true]at h3 ⊢;rcases h3 with h3|h3
   · exact .inl h3
   · by_cases hk:(F.blk i).term.kind=0
     · exact .inl (decide_eq_true hk)
     · right
       have hv:=YeB S.T hi hk;rw[Ye3 hk];exact Yg6 hkp hki S.O (hC.rg _ hv) (hC.idem _) (YeW S hC H hv h3)
theorem Yli:Sgl (gF kp ki m F):=by
 refine⟨Yk5 (mOk S.T hC) S.T,Ylc S.J,fun k hk=>?_,Ylf S.O,fun i hi=>?_⟩
 · rw[Yk9]
   rw[YaD]at hk;exact S.A k hk
 · rw[Ylb]
   rw[YaD]at hi;exact Ylh hkp hki S hC H hi
end
section
variable {F:PFunc} {rk:Int→Nat} {m m':Int→Int}
theorem Sgl.of(hT:Yc F=true)(h:singleB F=true):Sgl F:=by
 unfold singleB at h;simp only[Bool.and_eq_true]at h;refine⟨hT,h.1.1.1,fun k hk=>?_,h.1.2,fun i hi=>List.all_eq_true.1 h.2 i (by simpa using hi)⟩;exact List.mem_reverse.1 (YdJ.1 h.1.1.2 k hk)
theorem Sgl.singleB(S:Sgl F):singleB F=true:=by
 unfold Go.Proofs.YthhjlbflpjhahaaGreatDoor.singleB;simp only[Bool.and_eq_true];refine⟨⟨⟨S.J,YdJ.2 fun b hb=>S.or hb⟩,S.O⟩,List.all_eq_true.2 fun i hi=>S.B i (by simpa using hi)⟩
theorem Yg7(S:Sgl F)(hC:CpI F rk m)(H:CpH F rk):Sgl (clF m F):=by
 rw[Ye1];exact Yli (fun _ _ _ _ e=>decide_eq_true e) (fun _ _ _ _ e=>decide_eq_true e) S hC H
theorem Yg8(hc:∀b∈F.blocks,∀x∈b.insts,isCp x=true→m x.dst≠x.dst):∀b∈(clF m F).blocks,∀x∈b.insts,isCp x=false:=by
 intro b hb x hx;obtain⟨a,ha,rfl⟩:=List.mem_map.1 hb;obtain⟨y,hy,rfl⟩:=List.mem_map.1 hx;obtain⟨hy,h1⟩:=List.mem_filter.1 hy;cases e:isCp (clI m y)
 · rfl
 · exact absurd (of_decide_eq_true h1) (hc a ha y hy e)
theorem Yg9(S:Sgl F)(hC:CpI F (rkV F) m)(hE:EqR F (fun u v=>m u=m v)):∀b∈(clF m F).blocks,∀p∈b.phis,∃u∈p.args,∃v∈p.args,u≠p.dst∧v≠p.dst∧u≠v:=by
 have S':=Yg7 S hC S.cpH;intro b hb p hp;obtain⟨u,hu,hlt⟩:=S'.cpH.r.ph b hb p hp;have hud:u≠p.dst:=fun e=>by rw[e]at hlt;omega
 obtain⟨a,ha,rfl⟩:=List.mem_map.1 hb;obtain⟨q,hq,rfl⟩:=List.mem_map.1 hp;obtain⟨hq,h1⟩:=List.mem_filter.1 hq;have h1:m q.dst=q.dst:=of_decide_eq_true h1;refine Classical.byContradiction fun hn=>?_
 obtain⟨u0,hu0,rfl⟩:=List.mem_map.1 hu;have hud:m u0≠q.dst:=hud;have h2:=hE.ph a ha q hq u0 (fun c hc=>?_) ⟨u0,hu0,rfl⟩
 · exact hud (h2.symm.trans h1)
 · by_cases e:m c=q.dst
   · exact .inl (e.trans h1.symm)
   · refine .inr (Classical.byContradiction fun h3=>hn ⟨m c,List.mem_map.2 ⟨c,hc,rfl⟩,m u0,hu,e,hud,h3⟩)
theorem Ylj(S:Sgl F)(hC:CpI F (rkV F) m)(hE:EqR F (fun u v=>m u=m v))(hc:∀b∈F.blocks,∀x∈b.insts,isCp x=true→m x.dst≠x.dst)(hC':CpI (clF m F) (rkV (clF m F)) m')(hE':EqR (clF m F) (fun u v=>m' u=m' v)):clF m' (clF m F)=clF m F:=by
 have h1:=Yg8 hc;have h2:=Yg9 S hC hE;have h3:EqR (clF m F) (fun u v=>u=v):=by
  refine⟨fun _=>rfl,fun h=>h.symm,fun h h'=>h.trans h',fun b hb x hx hcp=>?_,fun b hb p hp z hall hex=>?_⟩
  · rw[h1 b hb x hx]at hcp
    cases hcp
  · obtain⟨u,hu,v,hv,hud,hvd,huv⟩:=h2 b hb p hp
    exact absurd (((hall u hu).resolve_left hud).trans ((hall v hv).resolve_left hvd).symm) huv
 have h4:m'=fun v=>v:=YjC hC' CpI.id_ hE' h3
 rw[h4,YkA]
end
section
variable {F:PFunc} {rk:Int→Nat} {r:List Int} {m:Int→Int} {w w':World} {B c:Nat} {A:Option Addr} {v:Int}
theorem FoA.get(h:FoA w B A r)(hF:FoM F rk r m)(hv:inV F v):∃g,A=some ⟨g,0,none⟩∧B≤g∧FoB w g r:=by
 rcases h with rfl|h
 · have h1:=hF.len
   have h2:=hv.1;have h3:=hv.2;simp at h1;omega
 · exact h
theorem Yff(hF:FoM F rk r m)(hr:FoA w B A r)(hv:inV F v):Calls Tryz.prog 54 #[.slice A F.vars.length c,.int .i64 v] w fun e w'=>e=.returned (.int .i64 (m v))∧Below w.heap.size w w':=by
 obtain⟨g,rfl,-,hr⟩:=hr.get hF hv;exact YeT hF hr.fo hv
theorem FoA.kp{K:Nat→Prop}(h:FoA w B A r)(hk:Kp K w w')(hK:r≠[]→∀g,A=some ⟨g,0,none⟩→K g):FoA w' B A r:=by
 by_cases hr:r=[]
 · exact .inl hr
 · obtain⟨g,e,h1,ex,h2⟩:=h.resolve_left hr
   exact .inr ⟨g,e,h1,ex,h2.kp hk (hK hr g e)⟩
end
set_option maxHeartbeats 4000000 in
theorem Yhe{F:PFunc}{rk:Int→Nat}{r:List Int}{m:Int→Int}{w:World}{B base c:Nat}{A:Option Addr}{v:Value}{xs:List Int}(hF:FoM F rk r m)(hr:FoA w B A r)(ho:OwnI w base v xs)(hin:∀x∈xs,inV F x)(hap:r≠[]→∀g,A=some ⟨g,0,none⟩→v.ownBlock≠some g) :
 Calls Tryz.prog 53 #[.slice A F.vars.length c,v] w fun e w'=>(∃v,e=.returned v)∧OwnI w' base v (xs.map m)∧Kp (fun b=>v.ownBlock≠some b) w w':=by
 obtain⟨hown,hlen⟩:=ho;obtain⟨Av,cv,rfl⟩:=Yh hown;have HFM:=Lh hF;have HR:=Lh hr;have HAP:=Lh hap;have HIN:=Lh hin;clear hF hr hap hin;go_enter Tryz.func53,Tryz.ntmps53;go_wp2_with fail
 go_loopw[8] (fun s wr=>∃k:Nat,s=.int .i64 k∧k≤xs.length∧wr.ownsRow base 3 1 (.slice Av xs.length cv) xs.length ((YbK m k xs).map (Value.int .i64))∧Kp (fun b=>(Value.slice Av xs.length cv).ownBlock≠some b) w wr) (fun s _=>xs.length-(intOf s).toNat)
 case atStart=>exact⟨0,rfl,Nz _,by rw[Ylv];exact hown,Kp.refl⟩
 case round=>as_aux_lemma=>
  clear hown;obtain⟨k,rfl,hk,hown,hK⟩:=hrel
  by_cases hlt:k<xs.length
  · as_aux_lemma=>
    obtain⟨gf,rfl⟩:∃gf,Av=some ⟨gf,0,none⟩:=by
     rcases hown.2 with⟨h1,h2⟩|⟨g,cap',cur,h1,-⟩
     · exact ZO
     · simp only[Value.slice.injEq]at h1
       exact⟨g,h1.1⟩
    have cf:=hown.cellAt k ZO;have ff:=hown.frozenAt k;have gfl:=(hown.lt _ rfl).2;have hx:=HIN.out _ (List.getElem_mem hlt);rw[List.getElem?_map,Ylw hlt]at cf;have HS:=Lh (Ylx (f:=m) hlt);have hrr:=HR.out.kp hK fun h g e=>HAP.out h g e
    have HRO:=Lh (Yff (c:=c) HFM.out hrr hx);generalize xs[k]=x at *;have HX:=Lh hx;have HO:=Lh hown;have HK:=Lh hK;replace cf:wr.cell? ⟨gf,k,none⟩=some (.int .i64 x):=cf;clear hrr hx hown hK;go_wp2_with(go_at_call 54;refine HRO.out.mono ?_;rintro e w8 ⟨rfl,hb8⟩;have ho8:=YA HO.out hb8;have ff8:=ho8.frozenAt k;have gl8:=(ho8.lt _ rfl).2;have cf8:=(hb8.cell (p:=⟨gf,k,none⟩) gfl).trans cf;have HB8:=Lh hb8;have HO8:=Lh ho8;clear hb8 ho8 cf ff gfl);go_roundw
    case rel=>
     refine⟨k+1,ZN,hlt,?_,(HK.out.trans (Kp.below HB8.out fun _ h _=>h)).setCell (p:=⟨gf,k,none⟩) (fun h=>h rfl) _⟩;have h1:=(HO8.out.stored k (.int .i64 (m x))).1;rw[← HS.out,List.map_set];exact h1
    case measure=>simp[intOf];omega
  · as_aux_lemma=>
    obtain rfl:k=xs.length:=by omega
    rw[Yly]at hown;have HO:=Lh hown;have HK:=Lh hK;clear hown hK;go_wp2_with fail;go_end0;exact⟨⟨_,rfl⟩,⟨by rw[List.length_map];exact HO.out,by rw[List.length_map];exact hlen⟩,HK.out⟩
def Ydg(m:Int→Int)(k:Nat):List Int:=(Ycb k).map m
theorem YlW{m:Int→Int}{k:Nat}:Ydg m (k+1)=Ydg m k++[m (k:Int)]:=by
 unfold Ydg;rw[YgC,List.map_append];rfl
def YlX(F:PFunc)(w w':World)(e:Ending):Prop:=∃A c m r,e=.returned (.slice A F.vars.length c)∧w'.ownsRow (w.heap.size+1) 3 1 (.slice A F.vars.length c) F.vars.length ((Ydg m F.vars.length).map (Value.int .i64))∧YcD F m r
set_option maxHeartbeats 8000000 in
theorem YlY{W w:World}{fv:Value}{F:PFunc}(hU:Uni W)(hF:FnV W W.heap.size fv F)(hW:Below W.heap.size W w)(hS:Yag F)(hB:Bnd F)(hR:YR F=true)(n1:F.vars.length≤1000) :
 Calls Tryz.prog 29 #[fv] w fun e w'=>YlX F w w' e∧Below w.heap.size w w':=by
 have hws:=hW.size;unfold YR at hR;rw[Bool.and_eq_true]at hR;have hT:=hR.1;have S:=Sgl.of hR.1 hR.2;have hrt:=fun(w':World) (h:Below W.heap.size W w')=>Yhd hU hF h hS hB
 rw[show Yac (YR F)=0 by rw[YR,hR.1,hR.2];rfl]at hrt;have hgr:=fun(w':World) (h:Below W.heap.size W w')=>YgD hF h S.cpH hT n1
 obtain⟨A0,c0,A1,c1,A2,c2,rfl,l0,l1,l2,-,-,-,-,-,-⟩:=id hF.open_;unfold Len at l0 l1 l2;have HRT:=Lh hrt;have HGR:=Lh hgr;clear hU hF hS hB hR hT S hrt hgr;have hb0:=(Br w.heap.size w).alloc (Nr _) (.cells #[.slice A0 F.vars.length c0,.slice A1 F.params.length c1,.slice A2 F.blocks.length c2] 26);have hx0:=BoxAt.new w #[.slice A0 F.vars.length c0,.slice A1 F.params.length c1,.slice A2 F.blocks.length c2] 26;obtain⟨W1,hW1⟩:∃W1:World,W1=w.alloc (.cells #[.slice A0 F.vars.length c0,.slice A1 F.params.length c1,.slice A2 F.blocks.length c2] 26):=⟨_,rfl⟩;have hs1:W1.heap.size=w.heap.size+1:=by rw[hW1];simp
 rw[← hW1]at hb0 hx0;have q0:=hx0.cell 0;have q1:=hx0.cell 1;have q2:=hx0.cell 2;have ql:=hx0.lt;simp at q0 q1 q2;go_enter Tryz.func29,Tryz.ntmps29
 go_upto_region 1 with fail
 go_loud (rw[← hW1])
 clear hW1
 go_upto_region 3 with(go_at_call 51;refine(HRT.out _ (hW.trans (hb0.mono hws))).mono ?_;rintro e w4 ⟨rfl,hb4⟩)
 have hx4:=hx0.below hb4 hx0.lt;have hB4:=hb0.trans (hb4.mono ZO);have hs4:=hb4.size;clear q0 q1 q2 ql hb0 hb4 hx0;have q0:=hx4.cell 0;have q1:=hx4.cell 1;have q2:=hx4.cell 2;have ql:=hx4.lt;simp at q0 q1 q2
 go_upto_region 4 with(go_at_call 52;refine(HGR.out _ (hW.trans (hB4.mono hws))).mono ?_;rintro e w5 ⟨⟨A,c,m,r,rfl,hfo,hgn⟩,hb5⟩)
 have hB5:=hB4.trans (hb5.mono ZO);have hs5:=hb5.size;have HG:=Lh hgn;have HFO:=Lh hfo;clear q0 q1 q2 ql hB4 hx4 hgn hfo hb5;go_wp2_with fail
 go_loopw[4,13] (fun v i wr=>∃k:Nat,i=.int .i64 k∧k≤F.vars.length∧wr.ownsRow w5.heap.size 3 1 v k ((Ydg m k).map (Value.int .i64))∧Below w5.heap.size w5 wr) (fun _ i _=>F.vars.length-(intOf i).toNat)
 case atStart=>exact⟨0,rfl,Nz _,World.ownsRow_nil _ _ _ _,Br _ _⟩
 case round=>as_aux_lemma=>
  obtain⟨k,rfl,hk,hown,hb⟩:=hrel;obtain⟨Av,cv,rfl⟩:=Yh hown;have hs:=hb.size
  by_cases hlt:k<F.vars.length
  · as_aux_lemma=>
    have hv:inV F (k:Int):=⟨ZO,ZO⟩;have HRO:=Lh (Yff (c:=c) HG.out.f (HFO.out.below hb) hv);have HB:=Lh hb;have HO:=Lh hown;clear hb hown hv;go_wp2_with fail;refine HRO.out.mono ?_;rintro e w8 ⟨rfl,hb8⟩;have ho8:=YA HO.out hb8;have hs8:=hb8.size;have HB8:=Lh (HB.out.trans (hb8.mono ZO));clear hb8;go_wp2_with(at_builtin;refine Yep _ rfl _ _ 23 rfl w5.heap.size 3 8 Tryz.underlying23 Tryz.info3 rfl _ _ _ rfl ho8 _ rfl (.int .i64 (m (k:Int))) (by rfl) rfl ZO ZD ZO ?_;intro v' w9 hown9 hg9 hfr9;obtain⟨A9,c9,hv9⟩:=Yh hown9;subst hv9);go_roundw
    case rel=>exact⟨k+1,ZN,ZO,by rw[YlW,List.map_append];exact hown9,(HB8.out.alloc HB8.out.size _).grown hg9 (by have:=HB8.out.size;simp;omega) (fun j hj=>by have:=(ho8.lt j hj).1;omega)⟩
    case measure=>simp[intOf];omega
  · as_aux_lemma=>
    obtain rfl:k=F.vars.length:=by omega
    have HB:=Lh hb;have HO:=Lh hown;clear hb hown;go_wp2_with fail;go_ret;exact⟨⟨_,_,m,r,rfl,YbB HO.out ZO,HG.out⟩,hB5.trans (HB.out.mono ZO)⟩
set_option maxHeartbeats 4000000 in
theorem Yng{W w:World}{fv:Value}{F:PFunc}(hU:Uni W)(hF:FnV W W.heap.size fv F)(hW:Below W.heap.size W w)(hS:Yag F)(hB:Bnd F)(hR:YR F=false) :
 Calls Tryz.prog 29 #[fv] w fun e w'=>e=.returned (.slice none 0 0)∧Below w.heap.size w w':=by
 have hws:=hW.size;have hrt:=fun(w':World) (h:Below W.heap.size W w')=>Yhd hU hF h hS hB
 rw[show Yac (YR F)=3 by rw[hR];rfl]at hrt;obtain⟨A0,c0,A1,c1,A2,c2,rfl,l0,l1,l2,-,-,-,-,-,-⟩:=id hF.open_;unfold Len at l0 l1 l2;have HRT:=Lh hrt;clear hU hF hS hB hR hrt;have hb0:=(Br w.heap.size w).alloc (Nr _) (.cells #[.slice A0 F.vars.length c0,.slice A1 F.params.length c1,.slice A2 F.blocks.length c2] 26);go_enter Tryz.func29,Tryz.ntmps29;go_wp2_with(go_at_call 51;refine(HRT.out _ (hW.trans (hb0.mono hws))).mono ?_;rintro e w4 ⟨rfl,hb4⟩);go_ret;exact⟨rfl,hb0.trans (hb4.mono ZS)⟩
def aRows(x:XBlk):List Value:=x.es.map (fun e=>e.2.1)++x.is.map Prod.snd
def Kc(p:XBlk)(gb b:Nat):Prop:=b≠gb∧∀u∈aRows p,u.ownBlock≠some b
def clE(m:Int→Int)(e:PPhi×Value×Value):PPhi×Value×Value:=(clP m e.1,e.2)
def clJ(m:Int→Int)(e:PInst×Value):PInst×Value:=(clI m e.1,e.2)
def keepE(m:Int→Int)(l:List (PPhi×Value×Value)):List (PPhi×Value×Value):=(l.filter fun e=>decide (m e.1.dst=e.1.dst)).map (clE m)
def keepJ(m:Int→Int)(l:List (PInst×Value)):List (PInst×Value):=(l.filter fun e=>!isCp e.1).map (clJ m)
section
variable {m:Int→Int} {p:XBlk} {gb:Nat} {es:List (PPhi×Value×Value)} {is:List (PInst×Value)}
theorem YlZ{e:PPhi×Value×Value}(h:e∈p.es):e.2.1∈aRows p:=List.mem_append_left _ (List.mem_map.2 ⟨e,h,rfl⟩)
theorem Yl0{e:PInst×Value}(h:e∈p.is):e.2∈aRows p:=List.mem_append_right _ (List.mem_map_of_mem h)
theorem Yfg:∀{es:List (PPhi×Value×Value)} {i k:Nat} {e e':PPhi×Value×Value},(rowsP es).Pairwise Apart→es[i]?=some e→es[k]?=some e'→i≠k→Apart e.2.1 e'.2.1
 |[],i,k,e,e',_,h,_,_=>by simp at h
 |x::es,i,k,e,e',hp,h,h',hne=>by
  have hx:rowsP (x::es)=x.2.1::x.2.2::rowsP es:=rfl;rw[hx,List.pairwise_cons,List.pairwise_cons]at hp;cases i with
  |zero=>
   cases k with
   |zero=>exact absurd rfl hne
   |succ k=>
    simp at h h';subst h;exact hp.1 _ (List.mem_cons_of_mem _ (Yba (List.mem_of_getElem? h')).1)
  |succ i=>
   cases k with
   |zero=>
    simp at h h';subst h';exact(hp.1 _ (List.mem_cons_of_mem _ (Yba (List.mem_of_getElem? h)).1)).symm
   |succ k=>exact Yfg hp.2.2 (by simpa using h) (by simpa using h') ZO
theorem Yhg{i k:Nat}{e e':PInst×Value}(h:(rowsI is).Pairwise Apart)(h1:is[i]?=some e)(h2:is[k]?=some e')(hne:i≠k):Apart e.2 e'.2:=by
 have g:∀{j:Nat} {x:PInst×Value},is[j]?=some x→(rowsI is)[j]?=some x.2:=fun hx=>by
  unfold rowsI;rw[List.getElem?_map,hx];rfl
 obtain⟨hi1,hi2⟩:=List.getElem?_eq_some_iff.1 (g h1);obtain⟨hk1,hk2⟩:=List.getElem?_eq_some_iff.1 (g h2);rcases Nat.lt_or_gt_of_ne hne with hl|hl
 · have:=List.pairwise_iff_getElem.1 h i k hi1 hk1 hl
   rwa [hi2,hk2]at this
 · have:=List.pairwise_iff_getElem.1 h k i hk1 hi1 hl
   rw[hi2,hk2]at this;exact this.symm
theorem Yhh:(rowsP (keepE m es)).Sublist (rowsP es):=by
 unfold keepE rowsP
 induction es with
 |nil=>exact List.Sublist.refl _
 |cons e es ih=>
  rw[List.filter_cons,List.flatMap_cons];split
  · rw[List.map_cons,List.flatMap_cons]
    exact(List.Sublist.refl _).append ih
  · exact ih.trans (List.sublist_append_right _ _)
theorem Yhi:(rowsI (keepJ m is)).Sublist (rowsI is):=by
 unfold keepJ rowsI;rw[List.map_map];exact List.filter_sublist.map _
theorem Yl1:(keepE m es).map Prod.fst=((es.map Prod.fst).filter fun p=>decide (m p.dst=p.dst)).map (clP m):=by
 unfold keepE;rw[List.map_map,List.filter_map,List.map_map];rfl
theorem Yl2:(keepJ m is).map Prod.fst=((is.map Prod.fst).filter fun x=>!isCp x).map (clI m):=by
 unfold keepJ;rw[List.map_map,List.filter_map,List.map_map];rfl
theorem Yhj{k:Nat}{e:PPhi×Value×Value}(h:es[k]?=some e):keepE m (es.take (k+1))=keepE m (es.take k)++if m e.1.dst=e.1.dst then [clE m e] else []:=by
 unfold keepE;rw[List.take_add_one,h,List.filter_append,List.map_append];congr 1
 by_cases e1:m e.1.dst=e.1.dst
 · simp[e1]
 · simp[e1]
theorem Yhk{k:Nat}{e:PInst×Value}(h:is[k]?=some e):keepJ m (is.take (k+1))=keepJ m (is.take k)++if isCp e.1=true then [] else [clJ m e]:=by
 unfold keepJ;rw[List.take_add_one,h,List.filter_append,List.map_append];congr 1;cases e1:isCp e.1
 · simp[e1]
 · simp[e1]
theorem Yl3{k:Nat}:(keepE m (es.take k)).length≤es.length:=by
 unfold keepE;rw[List.length_map];exact Nat.le_trans (List.length_filter_le _ _) (by rw[List.length_take];omega)
theorem Yl4{k:Nat}:(keepJ m (is.take k)).length≤is.length:=by
 unfold keepJ;rw[List.length_map];exact Nat.le_trans (List.length_filter_le _ _) (by rw[List.length_take];omega)
end
section
variable {w w' a:World} {B:Nat} {v:Value} {xs:List Int} {K:Nat→Prop}
theorem OwnI.kp(h:OwnI w B v xs)(hk:Kp K w w')(hK:∀b,v.ownBlock=some b→K b):OwnI w' B v xs:=⟨YcY h.1 fun b hb=>hk.blk b (hK b hb) (Yn h.1 hb).2,h.2⟩
theorem Kp.grownA{r:Option Nat}(h:Kp K a w)(hg:w.grownBy w' r)(hr:∀k,r=some k→a.heap.size≤k):Kp K a w':=by
 have h2:Kp (fun b=>K b∧b<a.heap.size) a w:=h.mono fun _ _ h=>h.1
 exact(h2.grown hg fun k hk hd=>by have:=hr k hk;omega).mono fun k hl hk=>⟨hk,hl⟩
end
structure PkI (p:XBlk) (gb B:Nat) (wi:World):Prop where
 hp:RRow wi B 64 3 (CPhS wi B) p.vp p.es
 hi:RRow wi B 67 4 (CInS wi B) p.vi p.is
 ap:p.rows.Pairwise Apart
 bt:NT [62] wi gb
structure RdI (p:XBlk) (gb B:Nat) (wi wr:World) (vb:Value) (xs:List XBlk) (i:Nat) (t:PTerm) (np ni:Nat) (vq:Value) (L:List (PPhi×Value×Value)) (vr:Value) (M:List (PInst×Value)):Prop where
 kp:Kp (Kc p gb) wi wr
 hq:RRow wr B 62 7 CBw vb ((xs.map XBlk.old).set i ({ p.b with term:=t },vq,vr))
 he:RRow wr wi.heap.size 64 3 (CPhS wr B) vq L
 hn:RRow wr wi.heap.size 67 4 (CInS wr B) vr M
 lp:∀x∈L,∃j e,j<np∧p.es[j]?=some e∧x.2=e.2
 mi:∀x∈M,∃j e,j<ni∧p.is[j]?=some e∧x.2=e.2
 hr:∀j e,np≤j→p.es[j]?=some e→OwnI wr B e.2.1 e.1.args
 hi:∀j e,ni≤j→p.is[j]?=some e→OwnI wr B e.2 e.1.args
section
variable {p:XBlk} {gb B i kp ki:Nat} {wi wr w':World} {vb vq vr:Value} {xs:List XBlk} {t:PTerm} {L:List (PPhi×Value×Value)} {M:List (PInst×Value)}
theorem PkI.int(P:PkI p gb B wi){u:Value}(hu:u∈p.rows){b:Nat}(hb:u.ownBlock=some b):NT [3] wi b∧b<wi.heap.size:=by
 rcases List.mem_append.1 hu with hu|hu
 · obtain⟨e,he,hu⟩:=List.mem_flatMap.1 hu
   obtain⟨cs,-,h1,h2⟩:=P.hp.all_ e he;simp only[List.mem_cons,List.not_mem_nil,or_false]at hu;rcases hu with rfl|rfl
   · exact⟨YaM h1.1 ZS b (Yn h1.1 hb).1 hb,(Yn h1.1 hb).2⟩
   · exact⟨YaM h2.1 ZS b (Yn h2.1 hb).1 hb,(Yn h2.1 hb).2⟩
 · obtain⟨e,he,rfl⟩:=List.mem_map.1 hu
   obtain⟨cs,-,h1⟩:=P.hi.all_ e he;exact⟨YaM h1.1 ZS b (Yn h1.1 hb).1 hb,(Yn h1.1 hb).2⟩
theorem Yce{u:Value}(hu:u∈aRows p):u∈p.rows:=by
 rcases List.mem_append.1 hu with hu|hu
 · obtain⟨e,he,rfl⟩:=List.mem_map.1 hu
   exact List.mem_append_left _ (Yba he).1
 · exact List.mem_append_right _ hu
theorem PkI.kc(P:PkI p gb B wi){b ty:Nat}(h:NT [ty] wi b)(h1:ty≠3)(h2:ty≠62):Kc p gb b:=
 ⟨fun e=>h2 (NT.two h (by rw[e];exact P.bt)),fun _ hu e=>h1 (NT.two h (P.int (Yce hu) e).1)⟩
theorem PkI.apP(P:PkI p gb B wi):(rowsP p.es).Pairwise Apart:=(List.pairwise_append.1 P.ap).1
theorem PkI.apI(P:PkI p gb B wi):(rowsI p.is).Pairwise Apart:=(List.pairwise_append.1 P.ap).2.1
theorem PkI.apX(P:PkI p gb B wi){u v:Value}(hu:u∈rowsP p.es)(hv:v∈rowsI p.is):Apart u v:=(List.pairwise_append.1 P.ap).2.2 u hu v hv
theorem PkI.from(P:PkI p gb B wi){e:PPhi×Value×Value}(he:e∈p.es){b:Nat}(hb:e.2.2.ownBlock=some b):Kc p gb b:=by
 have h1:=(P.int (List.mem_append_left _ (Yba he).2) hb).1;refine⟨fun e=>absurd (NT.two h1 (by rw[e];exact P.bt)) ZD,fun u hu e2=>?_⟩;rcases List.mem_append.1 hu with hu|hu
 · obtain⟨e',he',rfl⟩:=List.mem_map.1 hu
   exact Yfc P.apP he' he b e2 hb
 · obtain⟨e',he',rfl⟩:=List.mem_map.1 hu
   exact P.apX (Yba he).2 (List.mem_map_of_mem he') b hb e2
theorem RdI.below(h:RdI p gb B wi wr vb xs i t kp ki vq L vr M)(hb:Below wr.heap.size wr w'):RdI p gb B wi w' vb xs i t kp ki vq L vr M:=by
 have hk:KT [3,64,67,62] wr w':=KT.of_below hb;exact⟨h.kp.trans (Kp.below hb fun _ h _=>h),h.hq.kt hk ZS fun _ _ h=>h,h.he.kt hk ZS fun _ _ h=>h.kt hk ZS,h.hn.kt hk ZS fun _ _ h=>h.kt hk ZS,h.lp,h.mi,fun j e hj he=>(h.hr j e hj he).kt hk ZS,fun j e hj he=>(h.hi j e hj he).kt hk ZS⟩
theorem RdI.putP(P:PkI p gb B wi)(h:RdI p gb B wi wr vb xs i t kp ki vq L vr M){e:PPhi×Value×Value}(he:p.es[kp]?=some e)(hk:Kp (fun b=>e.2.1.ownBlock≠some b) wr w'):RdI p gb B wi w' vb xs i t (kp+1) ki vq L vr M:=by
 have hem:=List.mem_of_getElem? he;have ho:=(h.hr kp e (Nr _) he).1;have hK:KT [64,67,62] wr w':=KT.of_kp hk ho ZS;have hre:=(Yba hem).1;refine⟨h.kp.trans (hk.mono fun b _ hb=>hb.2 _ (YlZ hem)),h.hq.kt hK ZS fun _ _ h=>h,?_,?_,fun x hx=>?_,h.mi,fun j e' hj he'=>?_,fun j e' hj he'=>?_⟩
 · refine RRow.kt (C:=CPhS w' B) (h.he.mem fun cs x hx hc=>?_) hK ZS fun _ _ h=>h
   obtain⟨j,e',hj,he',e2⟩:=h.lp x hx;refine⟨hc.1,hc.2.1.kp hk fun b hb hb2=>?_,hc.2.2.kp hk fun b hb hb2=>?_⟩
   · rw[e2]at hb
     exact Yfg P.apP he' he ZO b hb hb2
   · rw[e2]at hb
     exact Yfc P.apP hem (List.mem_of_getElem? he') b hb2 hb
 · refine RRow.kt (C:=CInS w' B) (h.hn.mem fun cs x hx hc=>?_) hK ZS fun _ _ h=>h
   obtain⟨j,e',hj,he',e2⟩:=h.mi x hx;refine⟨hc.1,hc.2.kp hk fun b hb hb2=>?_⟩;rw[e2]at hb;exact P.apX hre (List.mem_map_of_mem (List.mem_of_getElem? he')) b hb2 hb
 · obtain⟨j,e',hj,h2⟩:=h.lp x hx
   exact⟨j,e',ZO,h2⟩
 · exact(h.hr j e' ZO he').kp hk fun b hb hb2=>Yfg P.apP he' he ZO b hb hb2
 · exact(h.hi j e' hj he').kp hk fun b hb hb2=>P.apX hre (List.mem_map_of_mem (List.mem_of_getElem? he')) b hb2 hb
theorem RdI.putI(P:PkI p gb B wi)(h:RdI p gb B wi wr vb xs i t kp ki vq L vr M){e:PInst×Value}(he:p.is[ki]?=some e)(hk:Kp (fun b=>e.2.ownBlock≠some b) wr w'):RdI p gb B wi w' vb xs i t kp (ki+1) vq L vr M:=by
 have hem:=List.mem_of_getElem? he;have ho:=(h.hi ki e (Nr _) he).1;have hK:KT [64,67,62] wr w':=KT.of_kp hk ho ZS;have hre:e.2∈rowsI p.is:=List.mem_map_of_mem hem;refine⟨h.kp.trans (hk.mono fun b _ hb=>hb.2 _ (Yl0 hem)),h.hq.kt hK ZS fun _ _ h=>h,?_,?_,h.lp,fun x hx=>?_,fun j e' hj he'=>?_,fun j e' hj he'=>?_⟩
 · refine RRow.kt (C:=CPhS w' B) (h.he.mem fun cs x hx hc=>?_) hK ZS fun _ _ h=>h
   obtain⟨j,e',hj,he',e2⟩:=h.lp x hx;have hm:=Yba (List.mem_of_getElem? he');refine⟨hc.1,hc.2.1.kp hk fun b hb hb2=>?_,hc.2.2.kp hk fun b hb hb2=>?_⟩
   · rw[e2]at hb
     exact P.apX hm.1 hre b hb hb2
   · rw[e2]at hb
     exact P.apX hm.2 hre b hb hb2
 · refine RRow.kt (C:=CInS w' B) (h.hn.mem fun cs x hx hc=>?_) hK ZS fun _ _ h=>h
   obtain⟨j,e',hj,he',e2⟩:=h.mi x hx;refine⟨hc.1,hc.2.kp hk fun b hb hb2=>?_⟩;rw[e2]at hb;exact Yhg P.apI he' he ZO b hb hb2
 · obtain⟨j,e',hj,h2⟩:=h.mi x hx
   exact⟨j,e',ZO,h2⟩
 · exact(h.hr j e' hj he').kp hk fun b hb hb2=>P.apX (Yba (List.mem_of_getElem? he')).1 hre b hb hb2
 · exact(h.hi j e' ZO he').kp hk fun b hb hb2=>Yhg P.apI he' he ZO b hb hb2
theorem RdI.skipP(h:RdI p gb B wi wr vb xs i t kp ki vq L vr M):RdI p gb B wi wr vb xs i t (kp+1) ki vq L vr M:=
 ⟨h.kp,h.hq,h.he,h.hn,fun x hx=>by
   obtain⟨j,e',hj,h2⟩:=h.lp x hx
   exact⟨j,e',ZO,h2⟩,h.mi,fun j e hj he=>h.hr j e ZO he,h.hi⟩
theorem RdI.skipI(h:RdI p gb B wi wr vb xs i t kp ki vq L vr M):RdI p gb B wi wr vb xs i t kp (ki+1) vq L vr M:=
 ⟨h.kp,h.hq,h.he,h.hn,h.lp,fun x hx=>by
   obtain⟨j,e',hj,h2⟩:=h.mi x hx
   exact⟨j,e',ZO,h2⟩,h.hr,fun j e hj he=>h.hi j e ZO he⟩
variable {n cap:Nat}
theorem Ydh{ys:List (PBlock×Value×Value)}{y y':PBlock×Value×Value}{j:Nat}{u:Value}(h:RRow wr B 62 7 CBw (.slice (some ⟨gb,0,none⟩) n cap) (ys.set i y))(hi:i<ys.length)(hj:j<7)(hx:∀cs,CBw cs y→CBw (cs.set j u) y') :
 RRow (wr.setCell ⟨gb,i*7+j,none⟩ u) B 62 7 CBw (.slice (some ⟨gb,0,none⟩) n cap) (ys.set i y'):=by
 have h1:=h.putJ (C':=CBw) (i:=i) (j:=j) (u:=u) (x':=y') (by simpa using hi) hj (fun _ _ _ _ _ h=>h) (by
  intro cs hc;refine hx cs ?_
  rwa [List.getElem_set_self]at hc)
 rwa [List.set_set]at h1
theorem RdI.gbT(h:RdI p gb B wi wr (.slice (some ⟨gb,0,none⟩) n cap) xs i t kp ki vq L vr M):NT [62] wr gb:=by
 obtain⟨cells,ho⟩:=h.hq.own;exact YaM ho ZS gb (Yn ho rfl).1 rfl
theorem KT.blkT(h:NT [62] wr gb){j:Nat}{u:Value}:KT [3,64,67] wr (wr.setCell ⟨gb,j,none⟩ u):=
 ⟨ZS,fun b hb=>Ycv (by
   rintro rfl;obtain⟨cs,ty,h1,h2⟩:=hb;obtain⟨cs',ty',h3,h4⟩:=h;rw[h1]at h3;cases h3;simp at h4;rw[h4]at h2
   exact absurd h2 ZD)⟩
theorem RdI.term(h:RdI p gb B wi wr (.slice (some ⟨gb,0,none⟩) n cap) xs i t kp ki vq L vr M)(hi:i<xs.length)(x:Int):RdI p gb B wi (wr.setCell ⟨gb,i*7+4,none⟩ (.int .i64 x)) (.slice (some ⟨gb,0,none⟩) n cap) xs i { t with var:=x } kp ki vq L vr M:=by
 have hK:=KT.blkT h.gbT (j:=i*7+4) (u:=.int .i64 x);refine⟨h.kp.setCell (p:=⟨gb,i*7+4,none⟩) (fun h=>h.1 rfl) _,Ydh h.hq (by simpa using hi) ZD fun cs hc=>?_,h.he.kt hK ZS fun _ _ h=>h.kt hK ZS,h.hn.kt hK ZS fun _ _ h=>h.kt hK ZS,h.lp,h.mi,fun j e hj he=>(h.hr j e hj he).kt hK ZS,fun j e hj he=>(h.hi j e hj he).kt hK ZS⟩;obtain⟨rfl,h2⟩:=hc;exact⟨rfl,h2⟩
theorem RdI.snocP{v':Value}{x:PPhi×Value×Value}{w3:World}(h:RdI p gb B wi wr (.slice (some ⟨gb,0,none⟩) n cap) xs i t kp ki vq L vr M)(hi:i<xs.length)
 (hR3:RRow w3 wi.heap.size 64 3 (CPhS wr B) v' (L++[x])) (hg:wr.grownBy w3 vq.ownBlock) (hxe:∃j e,j<kp∧p.es[j]?=some e∧x.2=e.2) :
 RdI p gb B wi (w3.setCell ⟨gb,i*7+1,none⟩ v') (.slice (some ⟨gb,0,none⟩) n cap) xs i t kp ki v' (L++[x]) vr M:=by
 obtain⟨cells,hO⟩:=h.he.own;have hK:KT [3,67,62] wr w3:=KT.refl.grown hO ZS hg;have hgb3:NT [62] w3 gb:=h.gbT.same (hK.blk gb (h.gbT.mono ZS));have hK3:=KT.blkT hgb3 (j:=i*7+1) (u:=v');refine⟨(h.kp.grownA hg fun k hk=>(Yn hO hk).1).setCell (p:=⟨gb,i*7+1,none⟩) (fun h=>h.1 rfl) _,Ydh (h.hq.kt hK ZS fun _ _ h=>h) (by simpa using hi) ZD fun cs hc=>?_,RRow.kt (C:=CPhS w3 B) (hR3.imp fun _ _ h=>h.kt hK ZS) hK3 ZS fun _ _ h=>h.kt hK3 ZS,(h.hn.kt hK ZS fun _ _ h=>h.kt hK ZS).kt hK3 ZS fun _ _ h=>h.kt hK3 ZS,fun y hy=>?_,h.mi,fun j e hj he=>((h.hr j e hj he).kt hK ZS).kt hK3 ZS,fun j e hj he=>((h.hi j e hj he).kt hK ZS).kt hK3 ZS⟩
 · obtain⟨rfl,h2⟩:=hc
   exact⟨rfl,h2⟩
 · rcases List.mem_append.1 hy with hy|hy
   · exact h.lp y hy
   · rw[List.mem_singleton]at hy
     rw[hy];exact hxe
theorem RdI.snocI{v':Value}{x:PInst×Value}{w3:World}(h:RdI p gb B wi wr (.slice (some ⟨gb,0,none⟩) n cap) xs i t kp ki vq L vr M)(hi:i<xs.length)
 (hR3:RRow w3 wi.heap.size 67 4 (CInS wr B) v' (M++[x])) (hg:wr.grownBy w3 vr.ownBlock) (hxe:∃j e,j<ki∧p.is[j]?=some e∧x.2=e.2) :
 RdI p gb B wi (w3.setCell ⟨gb,i*7+2,none⟩ v') (.slice (some ⟨gb,0,none⟩) n cap) xs i t kp ki vq L v' (M++[x]):=by
 obtain⟨cells,hO⟩:=h.hn.own;have hK:KT [3,64,62] wr w3:=KT.refl.grown hO ZS hg;have hgb3:NT [62] w3 gb:=h.gbT.same (hK.blk gb (h.gbT.mono ZS));have hK3:=KT.blkT hgb3 (j:=i*7+2) (u:=v');refine⟨(h.kp.grownA hg fun k hk=>(Yn hO hk).1).setCell (p:=⟨gb,i*7+2,none⟩) (fun h=>h.1 rfl) _,Ydh (h.hq.kt hK ZS fun _ _ h=>h) (by simpa using hi) ZD fun cs hc=>?_,(h.he.kt hK ZS fun _ _ h=>h.kt hK ZS).kt hK3 ZS fun _ _ h=>h.kt hK3 ZS,RRow.kt (C:=CInS w3 B) (hR3.imp fun _ _ h=>h.kt hK ZS) hK3 ZS fun _ _ h=>h.kt hK3 ZS,h.lp,fun y hy=>?_,fun j e hj he=>((h.hr j e hj he).kt hK ZS).kt hK3 ZS,fun j e hj he=>((h.hi j e hj he).kt hK ZS).kt hK3 ZS⟩
 · obtain⟨rfl,h2⟩:=hc
   exact⟨rfl,h2⟩
 · rcases List.mem_append.1 hy with hy|hy
   · exact h.mi y hy
   · rw[List.mem_singleton]at hy
     rw[hy];exact hxe
theorem Yfh{ys:List (PBlock×Value×Value)}{y:PBlock×Value×Value}{zs:List Value}(h:RRow wr B 62 7 CBw (.slice (some ⟨gb,0,none⟩) n cap) (ys.set i y))(hi:i<ys.length)(hz:zs=[.string y.1.name,y.2.1,y.2.2,.int .i64 y.1.term.kind,.int .i64 y.1.term.var,.int .i64 y.1.term.t0,.int .i64 y.1.term.t1]):gb<wr.heap.size∧(∀o,wr.frozen? ⟨gb,o,none⟩=false)∧∀(j:Nat) u,zs[j]?=some u→wr.cell? ⟨gb,i*7+j,none⟩=some u:=by
 obtain⟨cells,ho⟩:=h.own;obtain⟨A',c',hn⟩:=Yh ho;simp only[Value.slice.injEq]at hn;obtain⟨-,rfl,-⟩:=hn;obtain⟨g,cap',cs,hv,-,-,hgl,-,-,hc,hcs⟩:=h.cells (i:=i) (by simpa using hi);simp only[Value.slice.injEq,Option.some.injEq,Addr.mk.injEq]at hv;obtain⟨⟨rfl,-⟩,-,-⟩:=hv;rw[List.getElem_set_self]at hcs;obtain⟨rfl,-⟩:=hcs;exact⟨hgl,fun o=>ho.frozenAt o,fun j u hu=>hc j u (by rw[← hu,hz])⟩
theorem RdI.gbC{zs:List Value}(h:RdI p gb B wi wr (.slice (some ⟨gb,0,none⟩) n cap) xs i t kp ki vq L vr M)(hi:i<xs.length)(hz:zs=[.string p.b.name,vq,vr,.int .i64 t.kind,.int .i64 t.var,.int .i64 t.t0,.int .i64 t.t1]):gb<wr.heap.size∧(∀o,wr.frozen? ⟨gb,o,none⟩=false)∧∀(j:Nat) u,zs[j]?=some u→wr.cell? ⟨gb,i*7+j,none⟩=some u:=
 Yfh h.hq (by simpa using hi) hz
theorem RdI.gbP{w3:World}{zs:List Value}(h:RdI p gb B wi wr (.slice (some ⟨gb,0,none⟩) n cap) xs i t kp ki vq L vr M)(hi:i<xs.length)(hg:wr.grownBy w3 vq.ownBlock)(hz:zs=[.string p.b.name,vq,vr,.int .i64 t.kind,.int .i64 t.var,.int .i64 t.t0,.int .i64 t.t1]):gb<w3.heap.size∧(∀o,w3.frozen? ⟨gb,o,none⟩=false)∧∀(j:Nat) u,zs[j]?=some u→w3.cell? ⟨gb,i*7+j,none⟩=some u:=by
 obtain⟨cells,hO⟩:=h.he.own;have hK:KT [62] wr w3:=KT.refl.grown hO ZS hg;exact Yfh (h.hq.kt hK ZS fun _ _ h=>h) (by simpa using hi) hz
theorem RdI.gbI{w3:World}{zs:List Value}(h:RdI p gb B wi wr (.slice (some ⟨gb,0,none⟩) n cap) xs i t kp ki vq L vr M)(hi:i<xs.length)(hg:wr.grownBy w3 vr.ownBlock)(hz:zs=[.string p.b.name,vq,vr,.int .i64 t.kind,.int .i64 t.var,.int .i64 t.t0,.int .i64 t.t1]):gb<w3.heap.size∧(∀o,w3.frozen? ⟨gb,o,none⟩=false)∧∀(j:Nat) u,zs[j]?=some u→w3.cell? ⟨gb,i*7+j,none⟩=some u:=by
 obtain⟨cells,hO⟩:=h.hn.own;have hK:KT [62] wr w3:=KT.refl.grown hO ZS hg;exact Yfh (h.hq.kt hK ZS fun _ _ h=>h) (by simpa using hi) hz
end
theorem Yl5{w:World}{B:Nat}{cs:List Value}{x:PPhi×Value×Value}(h:CPhS w B cs x):∀y∈cs,y.oneCell'=true:=by
 obtain⟨rfl,⟨h1,-⟩,⟨h2,-⟩⟩:=h;obtain⟨A,c,e⟩:=Yh h1;obtain⟨A',c',e'⟩:=Yh h2;rw[e,e'];intro y hy;simp at hy;rcases hy with rfl|rfl|rfl<;>rfl
theorem Yl6{w:World}{B:Nat}{cs:List Value}{x:PInst×Value}(h:CInS w B cs x):∀y∈cs,y.oneCell'=true:=by
 obtain⟨rfl,⟨h1,-⟩⟩:=h;obtain⟨A,c,e⟩:=Yh h1;rw[e];intro y hy;simp at hy;rcases hy with rfl|rfl|rfl|rfl<;>rfl
theorem Yhl{α:Type}{w:World}{N sz:Nat}{cs:List Value}{e:TypeId}{C:List Value→α→Prop}{x:α}(h:BoxAt w N cs.toArray e)(hs:cs.length=sz)(hx:C cs x):DRow w (fun _=>True) sz C (.slice (some ⟨N,0,none⟩) 1 1) [x]:=by
 refine⟨_,_,rfl,by unfold Len;simp,ZS,fun i y hy=>?_⟩;cases i with
 |zero=>
  simp at hy;subst hy;refine⟨N,0,cs,rfl,trivial,h.lt,hs,fun j u hu=>?_,hx⟩;rw[Nat.zero_mul,Nat.zero_add,h.cell j];simpa using hu
 |succ i=>simp at hy
structure ClI (F:PFunc) (m:Int→Int) (wN wr:World) (gO B:Nat) (v0 v1 vb:Value) (ps xs:List XBlk) (i:Nat):Prop where
 box:BoxAt wr gO #[v0,v1,vb] 26
 hV:RRow wr wN.heap.size 78 2 YbQ v0 F.vars
 hI:wr.ownsRow wN.heap.size 3 1 v1 F.params.length (F.params.map (Value.int .i64))
 hB:RRow wr B 62 7 (CBS wr B) vb xs
 old:∀(j:Nat) (x:XBlk),i≤j→xs[j]?=some x→ps[j]?=some x
 new:∀(j:Nat) (x:XBlk),j<i→xs[j]?=some x→x.b=cpB m (F.blk j)
 rows:∀(j:Nat) (x p:XBlk),xs[j]?=some x→ps[j]?=some p→∀u∈x.rows,u∈p.rows
 len:xs.length=ps.length
 bel:Below wN.heap.size wN wr
structure CkI (F:PFunc) (wN:World) (B:Nat) (v1:Value) (ps:List XBlk):Prop where
 blk:ps.map XBlk.b=F.blocks
 pw:ps.Pairwise YdL
 v1:∀b,v1.ownBlock=some b→b<B
 le:wN.heap.size≤B
theorem RRow.setx{α:Type}{w:World}{base e sz i:Nat}{v:Value}{C:List Value→α→Prop}{ys:List α}{y y':α}(h:RRow w base e sz C v (ys.set i y))(hC:∀cs,C cs y→C cs y'):RRow w base e sz C v (ys.set i y'):=by
 obtain⟨ch,hl,h1,h2⟩:=h;refine⟨ch,by simpa using hl,fun k cs x hx hy=>?_,by simpa using h2⟩
 by_cases hk:i=k
 · subst hk
   by_cases hlt:i<ys.length
   · rw[List.getElem?_set_self hlt]at hy
     cases hy;have:=h1 i cs y hx (List.getElem?_set_self hlt);exact⟨this.1,hC _ this.2⟩
   · rw[List.getElem?_eq_none (by simpa using Nat.le_of_not_lt hlt)]at hy
     cases hy
 · rw[List.getElem?_set_ne hk]at hy
   exact h1 k cs x hx (by rw[List.getElem?_set_ne hk];exact hy)
theorem Yl7{w:World}{B:Nat}{v:Value}{ys:List XBlk}(h:RRow w B 62 7 CBw v (ys.map XBlk.old))(hc:∀(j:Nat) y,ys[j]?=some y→y.es.map Prod.fst=y.b.phis∧y.is.map Prod.fst=y.b.insts∧RRow w B 64 3 (CPhS w B) y.vp y.es∧RRow w B 67 4 (CInS w B) y.vi y.is∧y.rows.Pairwise Apart):RRow w B 62 7 (CBS w B) v ys:=by
 obtain⟨ch,hl,h1,h2⟩:=h;rw[List.length_map]at hl h2;refine⟨ch,hl,fun i cs x hx hy=>?_,h2⟩;obtain⟨a1,a2,a3⟩:=h1 i cs x.old hx (by rw[List.getElem?_map,hy];rfl);obtain⟨b1,b2,b3,b4,b5⟩:=hc i x hy;exact⟨a1,a2,a3,b1,b2,b3,b4,b5⟩
section
variable {F:PFunc} {m:Int→Int} {wN wi wr w':World} {gO B gb i:Nat} {v0 v1 vb:Value} {ps xs:List XBlk} {p:XBlk}
theorem ClI.below(h:ClI F m wN wr gO B v0 v1 vb ps xs i)(hb:Below wr.heap.size wr w'):ClI F m wN w' gO B v0 v1 vb ps xs i:=by
 have hk:KT [3,64,67,62,78] wr w':=KT.of_below hb;exact⟨h.box.below hb h.box.lt,h.hV.kt hk ZS fun _ _ h=>h,YbJ h.hI hk ZS,h.hB.kt hk ZS fun _ _ h=>h.kt hk ZS ZS ZS,h.old,h.new,h.rows,h.len,h.bel.trans (hb.mono h.bel.size)⟩
theorem ClI.pk{n cap:Nat}(h:ClI F m wN wi gO B v0 v1 (.slice (some ⟨gb,0,none⟩) n cap) ps xs i)(hp:xs[i]?=some p):PkI p gb B wi:=by
 obtain⟨cs,hc⟩:=h.hB.all_ p (List.mem_of_getElem? hp);obtain⟨cells,ho⟩:=h.hB.own;exact⟨hc.hp,hc.hi,hc.ap,YaM ho ZS gb (Yn ho rfl).1 rfl⟩
theorem ClI.w(h:ClI F m wN wi gO B v0 v1 vb ps xs i):RRow wi B 62 7 CBw vb (xs.map XBlk.old):=h.hB.map XBlk.old fun _ _ h=>⟨h.cs,h.nm⟩
theorem ClI.start{n cap:Nat}(h:ClI F m wN wi gO B v0 v1 (.slice (some ⟨gb,0,none⟩) n cap) ps xs i)(hp:xs[i]?=some p) :
 RdI p gb B wi ((wi.setCell ⟨gb,i*7+1,none⟩ (.slice none 0 0)).setCell ⟨gb,i*7+2,none⟩ (.slice none 0 0)) (.slice (some ⟨gb,0,none⟩) n cap) xs i p.b.term 0 0 (.slice none 0 0) [] (.slice none 0 0) []:=by
 have P:=h.pk hp;have hi:i<xs.length:=(List.getElem?_eq_some_iff.1 hp).1;have hK1:=KT.blkT P.bt (j:=i*7+1) (u:=.slice none 0 0);have hgb1:NT [62] (wi.setCell ⟨gb,i*7+1,none⟩ (.slice none 0 0)) gb:=by
  obtain⟨cells,ho⟩:=h.hB.own;obtain⟨A',c',hn⟩:=Yh ho;simp only[Value.slice.injEq]at hn;obtain⟨-,rfl,-⟩:=hn;have h1:=(ho.stored (i*7+1) (.slice none 0 0)).1;exact YaM h1 ZS gb (Yn h1 rfl).1 rfl
 have hK2:=KT.blkT hgb1 (j:=i*7+2) (u:=.slice none 0 0);have hq0:RRow wi B 62 7 CBw (.slice (some ⟨gb,0,none⟩) n cap) ((xs.map XBlk.old).set i p.old):=by
  have:(xs.map XBlk.old).set i p.old=xs.map XBlk.old:=by
   have h2:(xs.map XBlk.old)[i]?=some p.old:=by rw[List.getElem?_map,hp];rfl
   obtain⟨h3,h4⟩:=List.getElem?_eq_some_iff.1 h2;rw[← h4];exact List.set_getElem_self h3
  rw[this];exact h.w
 have hq1:RRow _ B 62 7 CBw (.slice (some ⟨gb,0,none⟩) n cap) ((xs.map XBlk.old).set i (p.b,.slice none 0 0,p.vi)):=Ydh (j:=1) (u:=.slice none 0 0) hq0 (by simpa using hi) ZD fun cs hc=>by
  obtain⟨rfl,h2⟩:=hc;exact⟨rfl,h2⟩
 have hq2:RRow _ B 62 7 CBw (.slice (some ⟨gb,0,none⟩) n cap) ((xs.map XBlk.old).set i (p.b,.slice none 0 0,.slice none 0 0)):=Ydh (j:=2) (u:=.slice none 0 0) hq1 (by simpa using hi) ZD fun cs hc=>by
  obtain⟨rfl,h2⟩:=hc;exact⟨rfl,h2⟩
 refine⟨(Kp.refl.setCell (p:=⟨gb,i*7+1,none⟩) (fun h=>h.1 rfl) _).setCell (p:=⟨gb,i*7+2,none⟩) (fun h=>h.1 rfl) _,hq2,RRow.nil,RRow.nil,fun x hx=>(by cases hx),fun x hx=>(by cases hx),fun j e _ he=>?_,fun j e _ he=>?_⟩
 · obtain⟨cs,-,h1,-⟩:=P.hp.all_ e (List.mem_of_getElem? he)
   exact(h1.kt hK1 ZS).kt hK2 ZS
 · obtain⟨cs,-,h1⟩:=P.hi.all_ e (List.mem_of_getElem? he)
   exact(h1.kt hK1 ZS).kt hK2 ZS
theorem ClI.fin{n cap kp ki:Nat}{vq vr:Value}(h:ClI F m wN wi gO B v0 v1 (.slice (some ⟨gb,0,none⟩) n cap) ps xs i)(C:CkI F wN B v1 ps)(hp:xs[i]?=some p)(hr:RdI p gb B wi wr (.slice (some ⟨gb,0,none⟩) n cap) xs i (clT m p.b.term) kp ki vq (keepE m p.es) vr (keepJ m p.is)) :
 ClI F m wN wr gO B v0 v1 (.slice (some ⟨gb,0,none⟩) n cap) ps (xs.set i ⟨cpB m p.b,vq,vr,keepE m p.es,keepJ m p.is⟩) (i+1):=by
 have P:=h.pk hp;have hi:i<xs.length:=(List.getElem?_eq_some_iff.1 hp).1;have hpp:=h.old i p (Nr _) hp;have hbi:p.b=F.blk i:=by
  have h1:=congrArg (fun l:List PBlock=>l[i]?) C.blk;have h2:i<F.blocks.length:=by
   have:=congrArg List.length C.blk;rw[List.length_map]at this;have:=h.len;omega
  simp only[List.getElem?_map,hpp,Option.map_some]at h1;rw[PFunc.blk_get h2]at h1;exact Option.some.inj h1
 have hK:KT [78,26,64,67] wi wr:=⟨hr.kp.size,fun b hb=>by
  obtain⟨cs,ty,h1,h2⟩:=hb;have h3:NT [ty] wi b:=⟨cs,ty,h1,ZS⟩;simp only[List.mem_cons,List.not_mem_nil,or_false]at h2;have h4:ty≠3∧ty≠62:=by rcases h2 with rfl|rfl|rfl|rfl<;>exact⟨ZD,ZD⟩
  exact hr.kp.blk b (P.kc h3 h4.1 h4.2) h3.lt⟩
 have hgo:NT [26] wi gO:=⟨_,_,h.box,ZS⟩;have hBN:=C.le;refine⟨(hK.blk gO (hgo.mono ZS)).trans h.box,h.hV.kt hK ZS fun _ _ h=>h,YcY h.hI fun b hb=>hr.kp.blk b ⟨fun e=>?_,fun u hu e=>?_⟩ (Yn h.hI hb).2,Yl7 ?_ fun j y hy=>?_,fun j x hj hx=>?_,fun j x hj hx=>?_,fun j x q hx hq u hu=>?_,by rw[List.length_set];exact h.len,h.bel.trans (hr.kp.to_below (fun b hb=>⟨fun e=>?_,fun u hu e=>?_⟩) h.bel.size)⟩
 · have h1:NT [3] wi b:=YaM h.hI ZS b (Yn h.hI hb).1 hb
   rw[e]at h1;exact absurd (NT.two h1 P.bt) ZD
 · obtain⟨cs,hc⟩:=h.hB.all_ p (List.mem_of_getElem? hp)
   have h1:=(YcF hc u (Yce hu) b e).1;have h2:=C.v1 b hb;omega
 · rw[List.map_set]
   exact RRow.setx hr.hq fun _ hc=>hc
 · by_cases hji:i=j
   · subst hji
     rw[List.getElem?_set_self hi]at hy;cases hy;obtain⟨cs,hc⟩:=h.hB.all_ p (List.mem_of_getElem? hp);refine⟨?_,?_,hr.he.rebase ?_,hr.hn.rebase ?_,?_⟩
     · show(keepE m p.es).map Prod.fst=(cpB m p.b).phis
       rw[Yl1,hc.me];rfl
     · show(keepJ m p.is).map Prod.fst=(cpB m p.b).insts
       rw[Yl2,hc.mi];rfl
     · have:=(h.hB.lt (k:=gb) rfl)
       omega
     · have:=(h.hB.lt (k:=gb) rfl)
       omega
     · exact P.ap.sublist (Yhh.append Yhi)
   · rw[List.getElem?_set_ne hji]at hy
     obtain⟨cs,hc⟩:=h.hB.all_ y (List.mem_of_getElem? hy);have hjl:j<ps.length:=by rw[← h.len];exact(List.getElem?_eq_some_iff.1 hy).1
     have hq:ps[j]?=some ps[j]:=List.getElem?_eq_getElem hjl;have hk:∀u∈y.rows,∀b,NT [3] wi b→u.ownBlock=some b→Kc p gb b:=fun u hu b hb hub=>by
      refine⟨fun e=>absurd (NT.two hb (by rw[e];exact P.bt)) ZD,fun v hv e=>?_⟩;exact(Ylz C.pw hq hpp (fun e=>hji e.symm)).2.2 u (h.rows j y _ hy hq u hu) v (Yce hv) b hub e
     refine⟨hc.me,hc.mi,RRow.kt (C:=CPhS wr B) (hc.hp.mem fun cs e he h1=>⟨h1.1,h1.2.1.kp hr.kp fun b hb=>?_,h1.2.2.kp hr.kp fun b hb=>?_⟩) hK ZS fun _ _ h=>h,RRow.kt (C:=CInS wr B) (hc.hi.mem fun cs e he h1=>⟨h1.1,h1.2.kp hr.kp fun b hb=>?_⟩) hK ZS fun _ _ h=>h,hc.ap⟩
     · exact hk _ (List.mem_append_left _ (Yba he).1) b (YaM h1.2.1.1 ZS b (Yn h1.2.1.1 hb).1 hb) hb
     · exact hk _ (List.mem_append_left _ (Yba he).2) b (YaM h1.2.2.1 ZS b (Yn h1.2.2.1 hb).1 hb) hb
     · exact hk _ (List.mem_append_right _ (List.mem_map_of_mem he)) b (YaM h1.2.1 ZS b (Yn h1.2.1 hb).1 hb) hb
 · rw[List.getElem?_set_ne ZO]at hx
   exact h.old j x ZO hx
 · by_cases hji:i=j
   · subst hji
     rw[List.getElem?_set_self hi]at hx;cases hx;show cpB m p.b=_;rw[hbi]
   · rw[List.getElem?_set_ne hji]at hx
     exact h.new j x ZO hx
 · by_cases hji:i=j
   · subst hji
     rw[List.getElem?_set_self hi]at hx;cases hx;rw[hpp]at hq;cases hq;exact(Yhh.append Yhi).subset hu
   · rw[List.getElem?_set_ne hji]at hx
     exact h.rows j x q hx hq u hu
 · have:=(h.hB.lt (k:=gb) rfl).1
   omega
 · obtain⟨cs,hc⟩:=h.hB.all_ p (List.mem_of_getElem? hp)
   have h1:=(YcF hc u (Yce hu) b e).1;omega
theorem ClI.fn(h:ClI F m wN wr gO B v0 v1 vb ps xs F.blocks.length)(C:CkI F wN B v1 ps)(hk:KT [3,64,67,62,78] wr w')(hc:∀b∈F.blocks,cpB m b=clB m b)(hB:Bnd (clF m F)):FnV w' w'.heap.size (.agg #[v0,v1,vb]) (clF m F):=by
 have hl:xs.length=F.blocks.length:=by rw[h.len,← C.blk,List.length_map]
 refine Ylt (h.hV.kt hk ZS fun _ _ h=>h) (YbJ h.hI hk ZS) ((((h.hB.kt hk ZS fun _ _ h=>h.kt hk ZS ZS ZS)).rebase C.le).map XBlk.old fun _ _ h=>h.old.rebase C.le) ?_ hB;rw[List.map_map];refine List.ext_getElem (by simp[clF,hl]) fun j h1 h2=>?_
 rw[List.length_map]at h1;have h3:j<F.blocks.length:=by omega
 have hx:xs[j]?=some xs[j]:=List.getElem?_eq_getElem h1;have h4:=h.new j _ h3 hx;rw[List.getElem_map];show xs[j].b=_;rw[h4,hc _ (YG h3)];have h5:=PFunc.blk_get h3;obtain⟨h7,h6⟩:=List.getElem?_eq_some_iff.1 h5;show _=(F.blocks.map (clB m))[j]'(by simpa using h7);rw[List.getElem_map,h6]
end
end Go.Proofs.YthhjlbflpjhahaaGreatDoor
