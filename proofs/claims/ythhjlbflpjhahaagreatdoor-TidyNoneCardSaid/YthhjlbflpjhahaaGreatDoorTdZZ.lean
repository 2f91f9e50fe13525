/- How often a variable is made: the same when a block was put behind another one. -/
import Derived.Test.YthhjlbflpjhahaaGreatDoorTdPZ
import Derived.Test.YthhjlbflpjhahaaGreatDoorMkRowsZ
import Derived.Test.YthhjlbflpjhahaaGreatDoorTdIZ
import Derived.Test.YthhjlbflpjhahaaGreatDoorNewZ
import Derived.Test.YthhjlbflpjhahaaGreatDoorFewQZ
namespace Go.Proofs.YthhjlbflpjhahaaGreatDoor
open Go.RowKit
set_option maxRecDepth 100000
def cntD(l:List Int)(v:Int):Nat:=(l.filter (·==v)).length
def cntK(F:PFunc)(v:Int)(i:Nat):Nat:=cntD ((F.blk i).phis.map (·.dst)) v+cntD ((F.blk i).insts.map (·.dst)) v
section
variable {F:PFunc} {a b:Nat} {v:Int}
theorem cntD_app{l m:List Int}:cntD (l++m) v=cntD l v+cntD m v:=by unfold cntD;rw[List.filter_append,List.length_append]
theorem mkOf_len{l:List Ev}:(mkOf l v).length=cntD (l.map (·.dst)) v:=by
 unfold mkOf cntD;rw[List.length_map,List.filter_map,List.length_map];rfl
theorem evPhi_dst{i:Nat}:(evPhi F i (F.blk i).phis.length).map (·.dst)=(F.blk i).phis.map (·.dst):=by
 unfold evPhi;rw[List.map_map];refine List.ext_getElem ZS fun k h1 h2=>?_
 have h3:k<(F.blk i).phis.length:=by simpa using h1
 simp[PBlock.phi,List.getD_eq_getElem?_getD,h3]
theorem evIns_dst{i:Nat}:(evIns F i (F.blk i).insts.length).map (·.dst)=(F.blk i).insts.map (·.dst):=by
 unfold evIns;rw[List.map_map];refine List.ext_getElem ZS fun k h1 h2=>?_
 have h3:k<(F.blk i).insts.length:=by simpa using h1
 simp[PBlock.inst,List.getD_eq_getElem?_getD,h3]
theorem mk_sum:∀m,(mkOf (evs F m) v).length=((List.range m).map (cntK F v)).sum
 |0=>rfl
 |m+1=>by
  have ih:=mk_sum m;rw[mkOf_len]at ih ⊢;rw[evs,List.map_append,cntD_app,ih,List.range_succ,List.map_append,List.sum_append];congr 1;unfold evBlk;rw[List.map_append,cntD_app,evPhi_dst,evIns_dst];simp[cntK]
theorem put_made(h:fol F a b=true):(mkOf (evF (putF F a b)) v).length=(mkOf (evF F) v).length:=by
 obtain⟨ha,hb,-,-,hab,-,hph⟩:=fol_parts h;have hnd:(List.range F.blocks.length).Nodup:=List.nodup_range;unfold evF;rw[mk_sum,mk_sum,sum_ne (b:=b) hnd (List.mem_range.2 hb),put_len hb];have e1:(List.range (F.blocks.length-1)).map (cntK (putF F a b) v)=((List.range F.blocks.length).filter fun i=>decide (i≠b)).map fun i=>if i=a then cntK F v i+cntK F v b else cntK F v i:=by
  rw[range_cut hb,List.map_map];refine List.map_congr_left fun j hj=>?_
  have hj:=List.mem_range.1 hj;unfold cntK;rw[put_blk hb hj];show cntD (((F.blk (up b j)).phis.map (mphi (tnI a b))).map (·.dst)) v+cntD ((if up b j=a then(F.blk a).insts++(F.blk b).insts else(F.blk (up b j)).insts).map (·.dst)) v=if up b j=a then cntD ((F.blk (up b j)).phis.map (·.dst)) v+cntD ((F.blk (up b j)).insts.map (·.dst)) v+(cntD ((F.blk b).phis.map (·.dst)) v+cntD ((F.blk b).insts.map (·.dst)) v) else cntD ((F.blk (up b j)).phis.map (·.dst)) v+cntD ((F.blk (up b j)).insts.map (·.dst)) v
  rw[List.map_map,show((fun x:PPhi=>x.dst)∘mphi (tnI a b))=fun x:PPhi=>x.dst from rfl,hph]
  by_cases e:up b j=a
  · rw[if_pos e,if_pos e,List.map_append,cntD_app,e]
    simp[cntD];omega
  · rw[if_neg e,if_neg e]
 rw[e1,sum_at (f:=cntK F v) (hnd.filter _),if_pos (List.mem_filter.2 ⟨List.mem_range.2 ha,by simpa using hab⟩)]
theorem put_once(h:fol F a b=true)(hO:onceB F=true):onceB (putF F a b)=true:=by
 unfold onceB at hO ⊢;rw[List.all_eq_true]at hO ⊢;intro v hv;have:=hO v hv;unfold onceAt at this ⊢;rw[put_made h];exact this
end
section
variable {F:PFunc} {a b j k m:Nat}
theorem Avoid.ne_{Pr:Nat→Nat→Prop}(h:Avoid Pr m k):k≠m:=by
 cases h with
 |start h=>exact fun e=>h e.symm
 |step _ _ h=>exact h
theorem put_avoid(h:fol F a b=true)(hT:typedP F=true)(hmb:m≠b)(hv:Avoid (fun x y=>x∈PR (putF F a b) y) (sg b m) k):k<F.blocks.length-1→Avoid (fun x y=>x∈PR F y) m (up b k):=by
 obtain⟨ha,hb,hka,hta,hab,-⟩:=fol_parts h;have hg:=typed_rg hT;have hT2:=put_typed h hT;have hb0:=typed_first hT h
 induction hv with
 |start hd=>
  intro _;have:up b 0=0:=by unfold up;rw[if_pos ZO]
  rw[this];refine .start fun e=>hd ?_
  rw[e];unfold sg;rw[if_neg ZO]
 |@step x y hx hp hy ih=>
  intro hyl;obtain⟨hx1,hx2⟩:=(mem_PR hT2).1 hp;have hx3:=(EN_leads hT2 hx1).1 hx2;rw[put_len hb]at hx1;rw[put_leads h hg hx1]at hx3;have hz:=ih hx1;have hne:up b y≠m:=fun e=>hy (by rw[← e,sg_up])
  unfold endAt at hx3
  by_cases e:up b x=a
  · rw[if_pos e]at hx3
    rw[e]at hz;have h1:Avoid (fun x y=>x∈PR F y) m b:=.step hz ((mem_PR hT).2 ⟨ha,(EN_leads hT ha).2 (by unfold leads;simp[hka,hta])⟩) (fun e=>hmb e.symm);exact .step h1 ((mem_PR hT).2 ⟨hb,(EN_leads hT hb).2 hx3⟩) hne
  · rw[if_neg e]at hx3
    exact .step hz ((mem_PR hT).2 ⟨up_lt hb hx1,(EN_leads hT (up_lt hb hx1)).2 hx3⟩) hne
theorem put_tab(h:fol F a b=true)(hT:typedP F=true)(hA:∀k,k<F.blocks.length→k∈postO F)(hm:m<F.blocks.length)(hj:j<F.blocks.length)(hmb:m≠b)(hjb:j≠b)(ht:tabP F m j):tabP (putF F a b) (sg b m) (sg b j):=by
 obtain⟨ha,hb,-⟩:=fol_parts h;have hR:∀x,x<F.blocks.length→x≠b→sg b x∈OR (putF F a b):=fun x hx hxb=>List.mem_reverse.2 (put_all h hT hA _ (by rw[put_len hb];exact sg_lt hxb hb hx))
 refine⟨hR m hm hmb,hR j hj hjb,?_⟩;rcases ht.2.2 with e|e
 · exact .inl (by rw[e])
 · refine .inr fun hv=>e ?_
   have:=put_avoid h hT hmb hv (sg_lt hjb hb hj)
   rwa [up_sg hjb]at this
theorem av_b(h:fol F a b=true)(hT:typedP F=true)(hv:Avoid (fun x y=>x∈PR F y) a j):Avoid (fun x y=>x∈PR F y) b j∧j≠b:=by
 have hb0:=typed_first hT h
 induction hv with
 |start _=>exact⟨.start hb0,fun e=>hb0 e.symm⟩
 |@step x y hx hp hy ih=>
  obtain⟨h1,h2⟩:=(mem_PR hT).1 hp;have h3:=(EN_leads hT h1).1 h2;have hyb:y≠b:=fun e=>by
   rw[e,fol_into h h1,decide_eq_true_eq]at h3;exact hx.ne_ h3
  exact⟨.step ih.1 hp hyb,hyb⟩
theorem tab_b(h:fol F a b=true)(hT:typedP F=true)(hA:∀k,k<F.blocks.length→k∈postO F)(ht:tabP F b j)(hjb:j≠b):tabP F a j:=by
 obtain⟨ha,hb,-⟩:=fol_parts h;refine⟨List.mem_reverse.2 (hA a ha),ht.2.1,.inr fun hv=>?_⟩;rcases ht.2.2 with e|e
 · exact hjb e.symm
 · exact e (av_b h hT hv).1
theorem tab_to(h:fol F a b=true)(hT:typedP F=true)(hA:∀k,k<F.blocks.length→k∈postO F)(ht:tabP F m b)(hmb:m≠b):tabP F m a:=by
 obtain⟨ha,hb,hka,hta,-⟩:=fol_parts h;refine⟨ht.1,List.mem_reverse.2 (hA a ha),.inr fun hv=>?_⟩;rcases ht.2.2 with e|e
 · exact hmb e
 · exact e (.step hv ((mem_PR hT).2 ⟨ha,(EN_leads hT ha).2 (by unfold leads;simp[hka,hta])⟩) fun e=>hmb e.symm)
end
theorem evs_mem{F:PFunc}{n i:Nat}(h:i<n){e:Ev}(he:e∈evBlk F i):e∈evs F n:=by
 induction n with
 |zero=>omega
 |succ n ih=>
  rw[evs,List.mem_append]
  by_cases hi:i<n
  · exact .inl (ih hi)
  · obtain rfl:i=n:=by omega
    exact .inr he
section
variable {F:PFunc}
def MkAt(F:PFunc)(v:Int)(i:Nat)(a:Int):Prop:=i<F.blocks.length∧((a=-1∧∃p∈(F.blk i).phis,p.dst=v)∨∃k:Nat,k<(F.blk i).insts.length∧a=k∧((F.blk i).inst k).dst=v)
theorem mk_ev{v:Int}{i:Nat}{a:Int}:MkAt F v i a↔(⟨v,i,a⟩:Ev)∈evF F:=by
 constructor
 · rintro⟨hi,h⟩
   refine evs_mem hi ?_;unfold evBlk;rw[List.mem_append];rcases h with⟨rfl,p,hp,rfl⟩|⟨k,hk,rfl,rfl⟩
   · obtain⟨k,hk,rfl⟩:=List.getElem_of_mem hp
     exact .inl (List.mem_map.2 ⟨k,List.mem_range.2 hk,by simp[PBlock.phi,List.getD,hk]⟩)
   · exact .inr (List.mem_map.2 ⟨k,List.mem_range.2 hk,rfl⟩)
 · intro h
   have key:∀n,n≤F.blocks.length→(⟨v,i,a⟩:Ev)∈evs F n→i<n∧(⟨v,i,a⟩:Ev)∈evBlk F i:=by
    intro n
    induction n with
    |zero=>intro _ h;cases h
    |succ n ih=>
     intro hn h;rw[evs,List.mem_append]at h;rcases h with h|h
     · have:=ih ZO h
       exact⟨ZO,this.2⟩
     · have hb:i=n:=by
        unfold evBlk evPhi evIns at h;rw[List.mem_append,List.mem_map,List.mem_map]at h;rcases h with⟨k,-,h⟩|⟨k,-,h⟩
        · cases h;rfl
        · cases h;rfl
       rw[hb];rw[hb]at h;exact⟨ZO,h⟩
   obtain⟨h1,h2⟩:=key F.blocks.length (Nr _) h;refine⟨h1,?_⟩;unfold evBlk evPhi evIns at h2;rw[List.mem_append,List.mem_map,List.mem_map]at h2;rcases h2 with⟨k,hk,h2⟩|⟨k,hk,h2⟩
   · cases h2
     exact .inl ⟨rfl,_,mem_of_Phi (List.mem_range.1 hk),rfl⟩
   · cases h2
     exact .inr ⟨k,List.mem_range.1 hk,rfl,rfl⟩
theorem mk_mem{v:Int}{i:Nat}{a:Int}(h:MkAt F v i a):((i:Int),a)∈mkOf (evF F) v:=List.mem_map.2 ⟨_,List.mem_filter.2 ⟨mk_ev.1 h,ZS⟩,rfl⟩
theorem mk_maker{v:Int}{i:Nat}{a:Int}(h1:(mkOf (evF F) v).length≤1)(h:MkAt F v i a):makerF F v=((i:Int),a):=by
 have hm:=mk_mem h;unfold makerF
 match mkOf (evF F) v,h1,hm with
 |[p],_,hm=>
  rw[List.mem_singleton]at hm;rw[hm,makerOf_cons]
 |p::q::r,h1,_=>simp at h1
theorem mk_none{v:Int}(h:∀i a,¬MkAt F v i a):makerF F v=(-1,0):=by
 unfold makerF;have:mkOf (evF F) v=[]:=by
  unfold mkOf;rw[List.map_eq_nil_iff,List.filter_eq_nil_iff];intro e he hd;have hd:e.dst=v:=by simpa using hd
  exact h e.blk e.pos (mk_ev.2 (by rw[← hd];exact he))
 rw[this,makerOf_nil]
theorem once_le(h:onceB F=true){v:Int}(h0:0≤v)(h1:v<F.vars.length):(mkOf (evF F) v).length≤1:=by
 have:=List.all_eq_true.1 h v.toNat (List.mem_range.2 ZO);unfold onceAt at this;rw[Int.toNat_of_nonneg h0]at this;simp only[Bool.not_eq_true',Bool.or_eq_false_iff,decide_eq_false_iff_not]at this;omega
end
def mvB(a b i:Nat):Nat:=sg b (if i=b then a else i)
def mvP(F:PFunc)(a b i:Nat)(p:Int):Int:=if i=b then((F.blk a).insts.length:Int)+p else p
section
variable {F:PFunc} {a b i j k m:Nat} {v p at_:Int}
theorem mv_lt(h:fol F a b=true)(hi:i<F.blocks.length):mvB a b i<F.blocks.length-1:=by
 obtain⟨ha,hb,-,-,hab,-⟩:=fol_parts h;unfold mvB
 by_cases e:i=b
 · rw[if_pos e]
   exact sg_lt hab hb ha
 · rw[if_neg e]
   exact sg_lt e hb hi
theorem put_phis(h:fol F a b=true)(hi:i<F.blocks.length)(hib:i≠b):((putF F a b).blk (sg b i)).phis=(F.blk i).phis.map (mphi (tnI a b)):=by
 obtain⟨-,hb,-⟩:=fol_parts h;rw[put_blk hb (sg_lt hib hb hi),up_sg hib];rfl
theorem put_insts(h:fol F a b=true)(hi:i<F.blocks.length)(hib:i≠b):((putF F a b).blk (sg b i)).insts=if i=a then(F.blk a).insts++(F.blk b).insts else(F.blk i).insts:=by
 obtain⟨-,hb,-⟩:=fol_parts h;rw[put_blk hb (sg_lt hib hb hi),up_sg hib];rfl
theorem put_instA(h:fol F a b=true)(hi:i<F.blocks.length)(hib:i≠b)(hk:k<(F.blk i).insts.length):((putF F a b).blk (sg b i)).inst k=(F.blk i).inst k∧k<((putF F a b).blk (sg b i)).insts.length:=by
 unfold PBlock.inst;rw[put_insts h hi hib]
 by_cases e:i=a
 · subst e
   rw[if_pos rfl];refine⟨?_,by rw[List.length_append];omega⟩;simp[List.getD_eq_getElem?_getD,List.getElem?_append_left hk]
 · rw[if_neg e]
   exact⟨rfl,hk⟩
theorem put_instB(h:fol F a b=true)(hk:k<(F.blk b).insts.length):((putF F a b).blk (sg b a)).inst ((F.blk a).insts.length+k)=(F.blk b).inst k∧(F.blk a).insts.length+k<((putF F a b).blk (sg b a)).insts.length:=by
 obtain⟨ha,hb,-,-,hab,-⟩:=fol_parts h;unfold PBlock.inst;rw[put_insts h ha hab,if_pos rfl];refine⟨?_,by rw[List.length_append];omega⟩;rw[List.getD_eq_getElem?_getD,List.getD_eq_getElem?_getD,List.getElem?_append_right ZO,Nat.add_sub_cancel_left]
theorem mk_put(h:fol F a b=true)(hk:MkAt F v i p):MkAt (putF F a b) v (mvB a b i) (mvP F a b i p):=by
 obtain⟨ha,hb,-,-,hab,-,hph⟩:=fol_parts h;obtain⟨hi,hk⟩:=hk;refine⟨by rw[put_len hb];exact mv_lt h hi,?_⟩;unfold mvB mvP
 by_cases e:i=b
 · subst e
   rw[if_pos rfl,if_pos rfl];rcases hk with⟨-,q,hq,-⟩|⟨k,hk,rfl,rfl⟩
   · rw[hph]at hq
     cases hq
   · obtain⟨h1,h2⟩:=put_instB h hk
     exact .inr ⟨_,h2,ZO,by rw[h1]⟩
 · rw[if_neg e,if_neg e]
   rcases hk with⟨rfl,q,hq,rfl⟩|⟨k,hk,rfl,rfl⟩
   · exact .inl ⟨rfl,mphi (tnI a b) q,by rw[put_phis h hi e];exact List.mem_map.2 ⟨q,hq,rfl⟩,rfl⟩
   · obtain⟨h1,h2⟩:=put_instA h hi e hk
     exact .inr ⟨k,h2,rfl,by rw[h1]⟩
theorem mk_unput(h:fol F a b=true)(hk:MkAt (putF F a b) v j p):∃i p',MkAt F v i p':=by
 obtain⟨ha,hb,-,-,hab,-,hph⟩:=fol_parts h;obtain⟨hj,hk⟩:=hk;rw[put_len hb]at hj;rw[put_blk hb hj]at hk;rcases hk with⟨-,q,hq,rfl⟩|⟨k,hk,-,rfl⟩
 · obtain⟨x,hx,rfl⟩:=List.mem_map.1 hq
   exact⟨_,-1,up_lt hb hj,.inl ⟨rfl,x,hx,rfl⟩⟩
 · have hm:=List.mem_of_getElem? (PBlock.inst_get hk)
   have key:∀i,i<F.blocks.length→(putB F a b (up b j)).inst k∈(F.blk i).insts→∃i p',MkAt F ((putB F a b (up b j)).inst k).dst i p':=fun i hi hm=>by
    obtain⟨m,hm,e⟩:=List.getElem_of_mem hm;exact⟨i,m,hi,.inr ⟨m,hm,rfl,by rw[← e];simp[PBlock.inst,List.getD,hm]⟩⟩
   have hm2:(putB F a b (up b j)).inst k∈if up b j=a then(F.blk a).insts++(F.blk b).insts else(F.blk (up b j)).insts:=hm
   split at hm2
   · rcases List.mem_append.1 hm2 with h1|h1
     · exact key a ha h1
     · exact key b hb h1
   · exact key _ (up_lt hb hj) hm2
theorem tab_ba(h:fol F a b=true)(hT:typedP F=true)(hA:∀k,k<F.blocks.length→k∈postO F):¬tabP F b a:=by
 obtain⟨ha,hb,-,-,hab,-⟩:=fol_parts h;have fin:=post_fin hT;have hb0:=typed_first hT h;have key:∀(n j:Nat),ordR F j≤n→j<F.blocks.length→ordR F j<ordR F b→Avoid (fun x y=>x∈PR F y) b j:=by
  intro n
  induction n with
  |zero=>
   intro j hm hj _;have:=(pl_pos fin).2 (hA j hj);unfold ordR at hm;omega
  |succ n ih=>
   intro j hm hj hlt;rcases pl_before fin (hA j hj)with h1|⟨x,hx,he,hl⟩
   · rw[h1]
     exact .start hb0
   · have hxn:=fin.lt x hx
     have hl':ordR F x<ordR F j:=hl;exact .step (ih x ZO hxn ZO) ((mem_PR hT).2 ⟨hxn,he⟩) fun e=>by rw[e]at hlt;omega
 rintro⟨-,-,e|e⟩
 · exact hab e.symm
 · exact e (key _ a (Nr _) ha (typed_rk hT hA _ _ h))
theorem put_ahead(h:fol F a b=true)(hT:typedP F=true)(hA:∀k,k<F.blocks.length→k∈postO F)(hO:onceB F=true)(h0:0≤v)(h1:v<F.vars.length)(hi:i<F.blocks.length)(hat:0≤at_){at':Int}(hle:mvP F a b i at_≤at')(hav:aheadV F (tabB F) v i at_=true):aheadV (putF F a b) (tabB (putF F a b)) v (mvB a b i) at'=true:=by
 obtain⟨ha,hb,-,-,hab,-,hph⟩:=fol_parts h;have hone:=once_le hO h0 h1;have hone':(mkOf (evF (putF F a b)) v).length≤1:=by rw[put_made h];exact hone
 unfold aheadV at *
 by_cases hex:∃m p,MkAt F v m p
 · obtain⟨m,p,hk⟩:=hex
   have hm:=hk.1;have hp1:m=b→0≤p:=fun e=>by
    subst e;rcases hk.2 with⟨-,q,hq,-⟩|⟨k,-,rfl,-⟩
    · rw[hph]at hq
      cases hq
    · exact ZO
   have hp2:p<((F.blk m).insts.length:Int):=by
    rcases hk.2 with⟨rfl,-⟩|⟨k,h2,rfl,-⟩<;>omega
   rw[mk_maker hone hk]at hav;rw[mk_maker hone' (mk_put h hk)];unfold aheadB at *;simp only at hav ⊢;rw[if_neg ZO]at hav⊢
   by_cases hmi:m=i
   · subst hmi
     rw[if_pos rfl]at hav ⊢;rw[decide_eq_true_eq]at hav ⊢;unfold mvP at *;split<;>rename_i e
     · rw[if_pos e]at hle
       omega
     · rw[if_neg e]at hle
       omega
   · rw[if_neg ZO,Int.toNat_natCast,tabB_iff]at hav
     have fin:mvB a b m≠mvB a b i→tabP (putF F a b) (mvB a b m) (mvB a b i)→(if((mvB a b m:Nat):Int)=((mvB a b i:Nat):Int) then decide (mvP F a b m p<at') else tabB (putF F a b) ((mvB a b m:Nat):Int).toNat (mvB a b i))=true:=fun hne ht=>by
      rw[if_neg ZO,Int.toNat_natCast,tabB_iff];exact ht
     have hsg:∀{x y:Nat},x≠b→y≠b→x≠y→sg b x≠sg b y:=fun hx hy hxy e=>hxy (by rw[← up_sg hx,← up_sg hy,e])
     by_cases hmb:m=b
     · subst hmb
       by_cases hia:i=a
       · subst hia
         exact absurd hav (tab_ba h hT hA)
       · have hib:i≠m:=fun e=>hmi e.symm
         have ht:=put_tab h hT hA ha hi hab hib (tab_b h hT hA hav hib);unfold mvB at *;rw[if_pos rfl,if_neg hib]at *;exact fin (hsg hab hib fun e=>hia e.symm) ht
     · by_cases hib:i=b
       · subst hib
         by_cases hma:m=a
         · subst hma
           unfold mvB mvP at *;rw[if_neg hmi,if_pos rfl]at *;rw[if_pos rfl,decide_eq_true_eq,if_neg hmi];omega
         · have ht:=put_tab h hT hA hm ha hmb hab (tab_to h hT hA hav hmb)
           unfold mvB at *;rw[if_neg hmb,if_pos rfl]at *;exact fin (hsg hmb hab hma) ht
       · have ht:=put_tab h hT hA hm hi hmb hib hav
         unfold mvB at *;rw[if_neg hmb,if_neg hib]at *;exact fin (hsg hmb hib hmi) ht
 · rw[mk_none fun i a hk=>hex (mk_unput h hk)]
   rfl
theorem len_at(h:fol F a b=true)(hi:i<F.blocks.length):mvP F a b i ((F.blk i).insts.length:Int)≤(((putF F a b).blk (mvB a b i)).insts.length:Int):=by
 obtain⟨ha,hb,-,-,hab,-⟩:=fol_parts h;unfold mvP mvB
 by_cases e:i=b
 · subst e
   rw[if_pos rfl,if_pos rfl,put_insts h ha hab,if_pos rfl,List.length_append];omega
 · rw[if_neg e,if_neg e,put_insts h hi e]
   split
   · rename_i e2
     rw[e2,List.length_append];omega
   · exact ZO
theorem mem_all{l:List Int}{n:Int}(h:∀j,j<l.length→0≤ith l j∧ith l j<n):∀v∈l,0≤v∧v<n:=fun v hv=>by
 obtain⟨j,hj,e⟩:=List.getElem_of_mem hv;have:=h j hj;simp only[ith,List.getD,hj,List.getElem?_eq_getElem,Option.getD_some,e]at this;exact this
theorem put_behind(h:fol F a b=true)(hT:typedP F=true)(hA:∀k,k<F.blocks.length→k∈postO F)(hO:onceB F=true)(hB:∀i,i<F.blocks.length→behindB F (tabB F) i=true)(hj:j<F.blocks.length-1):behindB (putF F a b) (tabB (putF F a b)) j=true:=by
 obtain⟨ha,hb,-,-,hab,-,hph⟩:=fol_parts h;have hu:=up_lt hb hj;have hub:up b j≠b:=up_ne;have hsj:mvB a b (up b j)=j:=by unfold mvB;rw[if_neg hub,sg_up]
 have hsa:up b j=a→mvB a b b=j:=fun e=>by unfold mvB;rw[if_pos rfl,← e,sg_up]
 have hsa2:up b j=a→mvB a b a=j:=fun e=>by unfold mvB;rw[if_neg hab,← e,sg_up]
 have hg:=typed_rg hT;have hins:∀i k,i<F.blocks.length→k<(F.blk i).insts.length→∀v∈((F.blk i).inst k).args,(0≤v∧v<F.vars.length)∧aheadV F (tabB F) v i (k:Int)=true:=fun i k hi hk v hv=>by
  refine⟨mem_all (typed_inst hT hi hk).2 v hv,?_⟩;have:=hB i hi;unfold behindB at this;simp only[Bool.and_eq_true]at this;have:=List.all_eq_true.1 this.1.2 k (List.mem_range.2 hk);unfold instBe at this;exact List.all_eq_true.1 this v hv
 have htrm:∀i,i<F.blocks.length→(F.blk i).term.kind≠0→aheadV F (tabB F) (F.blk i).term.var i ((F.blk i).insts.length:Int)=true:=fun i hi hk=>by
  have:=hB i hi;unfold behindB at this;simp only[Bool.and_eq_true]at this;have:=this.2;unfold termBe at this;rw[Bool.or_eq_true,decide_eq_true_eq]at this;exact this.resolve_left hk
 unfold behindB;simp only[Bool.and_eq_true];refine⟨⟨?_,?_⟩,?_⟩
 · rw[List.all_eq_true,put_blk hb hj]
   intro q hq;obtain⟨x,hx,rfl⟩:=List.mem_map.1 hq;obtain⟨n,hn,e⟩:=List.getElem_of_mem hx;have hp2:(F.blk (up b j)).phi n=x:=by simp[PBlock.phi,List.getD,hn,e]
   obtain⟨hl,-,hr⟩:=typed_phi hT hu hn;rw[hp2]at hl hr;have:=hB _ hu;unfold behindB at this;simp only[Bool.and_eq_true]at this;have:=List.all_eq_true.1 this.1.1 x hx;unfold phiBe at this ⊢;rw[List.all_eq_true]at this ⊢;intro k hk;have hk2:k<x.args.length:=List.mem_range.1 hk;have hpk:=this k hk;unfold pairOk at hpk ⊢;have hfl:k<x.froms.length:=by omega
   obtain⟨y,hy,hyn⟩:=hg.fr _ hu x hx _ (List.mem_of_getElem? (ith_get hfl));have hf:ith (mphi (tnI a b) x).froms k=tnI a b (ith x.froms k):=by
    unfold mphi ith;simp[List.getD_eq_getElem?_getD,hfl]
   rw[hf,hy];rw[hy,Int.toNat_natCast]at hpk;have hmv:tnI a b (y:Int)=(mvB a b y:Nat):=by
    unfold mvB
    by_cases e:y=b
    · subst e
      rw[if_pos rfl,tn_b]
    · rw[if_neg e,tn_sg e]
   rw[hmv,Int.toNat_natCast];have hra:=hr k hk2;exact put_ahead h hT hA hO hra.1 hra.2 hyn ZO (len_at h hyn) hpk
 · rw[List.all_eq_true]
   intro k hk;have hk1:=List.mem_range.1 hk;unfold instBe;rw[List.all_eq_true];rw[put_blk hb hj]at hk1 ⊢;have hk2:k<(if up b j=a then(F.blk a).insts++(F.blk b).insts else(F.blk (up b j)).insts).length:=hk1;have hI:(putB F a b (up b j)).inst k=(if up b j=a then(F.blk a).insts++(F.blk b).insts else(F.blk (up b j)).insts).getD k default:=rfl;rw[hI]
   by_cases e:up b j=a
   · rw[if_pos e]at hk2⊢
     rw[List.length_append]at hk2
     by_cases hka:k<(F.blk a).insts.length
     · have hE:((F.blk a).insts++(F.blk b).insts).getD k default=(F.blk a).inst k:=by
        unfold PBlock.inst;simp[List.getD_eq_getElem?_getD,List.getElem?_append_left hka]
       rw[hE];intro v hv;obtain⟨h1,h2⟩:=hins a k ha hka v hv;have:=put_ahead h hT hA hO h1.1 h1.2 ha ZO (at':=(k:Int)) (by unfold mvP;rw[if_neg hab];omega) h2;rw[hsa2 e]at this;exact this
     · have hE:((F.blk a).insts++(F.blk b).insts).getD k default=(F.blk b).inst (k-(F.blk a).insts.length):=by
        unfold PBlock.inst;simp[List.getD_eq_getElem?_getD,List.getElem?_append_right (show(F.blk a).insts.length≤k from ZO)]
       rw[hE];intro v hv;obtain⟨h1,h2⟩:=hins b (k-(F.blk a).insts.length) hb ZO v hv;have:=put_ahead h hT hA hO h1.1 h1.2 hb ZO (at':=(k:Int)) (by unfold mvP;rw[if_pos rfl];omega) h2;rw[hsa e]at this;exact this
   · rw[if_neg e]at hk2⊢
     intro v hv;obtain⟨h1,h2⟩:=hins (up b j) k hu hk2 v hv;have:=put_ahead h hT hA hO h1.1 h1.2 hu ZO (at':=(k:Int)) (by unfold mvP;rw[if_neg hub];omega) h2;rw[hsj]at this;exact this
 · unfold termBe
   rw[Bool.or_eq_true,decide_eq_true_eq]
   by_cases h0:((putF F a b).blk j).term.kind=0
   · exact .inl h0
   refine .inr ?_;have hte:((putF F a b).blk j).term=mterm (tnI a b) (endAt F a b (up b j)):=by rw[put_blk hb hj];rfl
   rw[hte,(mterm_kind _ _).1]at h0;rw[hte,(mterm_kind _ _).2];unfold endAt at *
   by_cases e:up b j=a
   · rw[if_pos e]at *
     obtain⟨h1,h2⟩:=typed_term hT hb h0;have:=put_ahead h hT hA hO h1 h2 hb ZO (len_at h hb) (htrm b hb h0);rw[hsa e]at this;exact this
   · rw[if_neg e]at *
     obtain⟨h1,h2⟩:=typed_term hT hu h0;have:=put_ahead h hT hA hO h1 h2 hu ZO (len_at h hu) (htrm _ hu h0);rw[hsj]at this;exact this
structure PutB (F G:PFunc):Prop where
 t:PutT F G
 o:onceB G=true
 b:∀i,i<G.blocks.length→behindB G (tabB G) i=true
variable {G:PFunc}
theorem PutB.end_:∀(m:Nat) {G:PFunc},PutB F G→G.blocks.length≤m→∃H,PutB F H∧∀a b,fol H a b=false
 |0,G,h,hl=>by have:=h.t.s.pos;omega
 |m+1,G,h,hl=>by
  by_cases e:∃a b,fol G a b=true
  · obtain⟨a,b,hf⟩:=e
    obtain⟨h1,h2⟩:=h.t.put hf;have hb:=(fol_parts hf).2.1;exact PutB.end_ m ⟨h1,put_once hf h.o,fun i hi=>put_behind hf h.t.t h.t.a h.o h.b (by rw[put_len hb]at hi;exact hi)⟩ ZO
  · refine⟨G,h,fun a b=>?_⟩
    cases h2:fol G a b
    · rfl
    · exact absurd ⟨a,b,h2⟩ e
theorem straight_behind(hT:typedP F=true)(hJ:joinedB F=true)(hA:∀k,k<F.blocks.length→k∈postO F)(hO:onceB F=true)(hB:∀i,i<F.blocks.length→behindB F (tabB F) i=true)(h:IsT F G):PutB F G∧∀a b,fol G a b=false:=by
 obtain⟨H,h1,h2⟩:=PutB.end_ _ ⟨PutT.refl hT hJ hA,hO,hB⟩ (Nr _);obtain rfl:=IsT.uniq (typed_rk hT hA) (typed_rg hT) h (h1.t.s.fin h2);exact⟨h1,h2⟩
end
structure BOk (b:PBlock):Prop where
 name:b.name.size≤400
 phis:b.phis.length≤400
 insts:b.insts.length≤400
 ph:∀p∈b.phis,p.args.length≤400∧p.froms.length≤400
 ins:∀x∈b.insts,x.args.length≤400
def bSz(b:PBlock):Nat:=blkHead b+phisLen b.phis+instsLen b.insts
section
variable {F G:PFunc} {a b i:Nat}
theorem phisFew_all:∀{l:List PPhi} {m:Nat},phisFew m l=true→∀p∈l,p.args.length≤400∧p.froms.length≤400
 |[],_,_,_,hp=>by cases hp
 |x::l,m,h,p,hp=>by
  simp only[phisFew,Bool.and_eq_true,decide_eq_true_eq]at h;rcases List.mem_cons.1 hp with rfl|hp
  · exact⟨h.1.1.2,h.1.2⟩
  · exact phisFew_all h.2 p hp
theorem instsFew_all:∀{l:List PInst} {m:Nat},instsFew m l=true→∀x∈l,x.args.length≤400
 |[],_,_,_,hp=>by cases hp
 |x::l,m,h,p,hp=>by
  simp only[instsFew,Bool.and_eq_true,decide_eq_true_eq]at h;rcases List.mem_cons.1 hp with rfl|hp
  · exact h.1.2
  · exact instsFew_all h.2 p hp
theorem phisFew_mk:∀{l:List PPhi} {m:Nat},(∀p∈l,p.args.length≤400∧p.froms.length≤400)→m+phisLen l≤4000→phisFew m l=true
 |[],_,_,_=>rfl
 |x::l,m,h,hs=>by
  simp only[phisLen]at hs;simp only[phisFew,Bool.and_eq_true,decide_eq_true_eq];have h1:=h x (List.mem_cons_self ..);exact⟨⟨⟨ZO,h1.1⟩,h1.2⟩,phisFew_mk (fun p hp=>h p (List.mem_cons_of_mem _ hp)) ZO⟩
theorem instsFew_mk:∀{l:List PInst} {m:Nat},(∀x∈l,x.args.length≤400)→m+instsLen l≤4000→instsFew m l=true
 |[],_,_,_=>rfl
 |x::l,m,h,hs=>by
  simp only[instsLen]at hs;simp only[instsFew,Bool.and_eq_true,decide_eq_true_eq];exact⟨⟨ZO,h x (List.mem_cons_self ..)⟩,instsFew_mk (fun p hp=>h p (List.mem_cons_of_mem _ hp)) ZO⟩
theorem blksFew_all:∀{l:List PBlock} {m:Nat},blksFew m l=true→(∀b∈l,BOk b)∧(l≠[]→m+(l.map bSz).sum≤4000)
 |[],_,_=>⟨fun _ h=>by(cases h),fun h=>absurd rfl h⟩
 |b::l,m,h=>by
  simp only[blksFew,Bool.and_eq_true]at h;obtain⟨h1,h2⟩:=h;obtain⟨h3,h4⟩:=blksFew_all h2;simp only[blkFew,Bool.and_eq_true,decide_eq_true_eq]at h1;obtain⟨⟨⟨⟨⟨g1,g2⟩,g3⟩,g4⟩,g5⟩,g6⟩:=h1;refine⟨fun c hc=>?_,fun _=>?_⟩
  · rcases List.mem_cons.1 hc with rfl|hc
    · exact⟨g1,g2,g3,phisFew_all g4,instsFew_all g5⟩
    · exact h3 c hc
  · rw[List.map_cons,List.sum_cons,show bSz b=blkHead b+phisLen b.phis+instsLen b.insts from rfl]
    cases l with
    |nil=>simp;omega
    |cons c l=>
     have:=h4 ZS;omega
theorem blksFew_mk:∀{l:List PBlock} {m:Nat},(∀b∈l,BOk b)→m+(l.map bSz).sum≤4000→blksFew m l=true
 |[],_,_,_=>rfl
 |b::l,m,h,hs=>by
  rw[List.map_cons,List.sum_cons,show bSz b=blkHead b+phisLen b.phis+instsLen b.insts from rfl]at hs;have h1:=h b (List.mem_cons_self ..);simp only[blksFew,Bool.and_eq_true];refine⟨?_,blksFew_mk (fun c hc=>h c (List.mem_cons_of_mem _ hc)) ZO⟩;simp only[blkFew,Bool.and_eq_true,decide_eq_true_eq];exact⟨⟨⟨⟨⟨h1.name,h1.phis⟩,h1.insts⟩,phisFew_mk h1.ph ZO⟩,instsFew_mk h1.ins ZO⟩,ZO⟩
theorem few_mk(hf:fewB F=true)(h1:1≤F.blocks.length)(hv:G.vars=F.vars)(hp:G.params=F.params)(hl:G.blocks.length≤F.blocks.length)(hs:(G.blocks.map bSz).sum≤(F.blocks.map bSz).sum)(hb:(∀b∈F.blocks,BOk b)→(F.blocks.map bSz).sum≤4000→∀b∈G.blocks,BOk b):fewB G=true:=by
 unfold fewB at hf ⊢;rw[hv,hp];simp only[Bool.and_eq_true,decide_eq_true_eq]at hf ⊢;obtain⟨⟨⟨⟨g1,g2⟩,g3⟩,g4⟩,g5⟩:=hf;obtain⟨h2,h3⟩:=blksFew_all g5;have h4:=h3 (fun e=>by rw[e]at h1;simp at h1);exact⟨⟨⟨⟨g1,ZO⟩,g3⟩,g4⟩,blksFew_mk (hb h2 ZO) ZO⟩
theorem mem_le_sum{f:PBlock→Nat}:∀{l:List PBlock} {x:PBlock},x∈l→f x≤(l.map f).sum
 |y::l,x,h=>by
  rw[List.map_cons,List.sum_cons];rcases List.mem_cons.1 h with rfl|h
  · exact ZO
  · have:=mem_le_sum (f:=f) h
    omega
theorem phisLen_map{f:Int→Int}:∀{l:List PPhi},phisLen (l.map (mphi f))=phisLen l
 |[]=>rfl
 |x::l=>by
  rw[List.map_cons,phisLen,phisLen,phisLen_map];show x.args.length+(x.froms.map f).length+_=_;rw[List.length_map]
theorem instsLen_app:∀{l m:List PInst},instsLen (l++m)=instsLen l+instsLen m
 |[],m=>by simp[instsLen]
 |x::l,m=>by
  rw[List.cons_append,instsLen,instsLen,instsLen_app];omega
theorem put_sz(ha:a<F.blocks.length)(hb:b<F.blocks.length)(hab:a≠b):((putF F a b).blocks.map bSz).sum≤(F.blocks.map bSz).sum:=by
 have hnd:(List.range F.blocks.length).Nodup:=List.nodup_range;have hbk:(putF F a b).blocks=((List.range F.blocks.length).filter fun i=>decide (i≠b)).map (putB F a b):=rfl;have e1:(((List.range F.blocks.length).filter fun i=>decide (i≠b)).map (bSz∘putB F a b))=(((List.range F.blocks.length).filter fun i=>decide (i≠b)).map fun i=>if i=a then bSz (F.blk i)+(10*(F.blk b).insts.length+instsLen (F.blk b).insts) else bSz (F.blk i)):=by
  refine List.map_congr_left fun i _=>?_
  show bSz (putB F a b i)=_;unfold bSz blkHead putB;simp only[List.length_map,phisLen_map]
  by_cases e:i=a
  · simp only[if_pos e,List.length_append,instsLen_app]
    rw[e];omega
  · simp only[if_neg e]
 rw[hbk,List.map_map,e1,sum_at (f:=fun i=>bSz (F.blk i)) (hnd.filter _),if_pos (List.mem_filter.2 ⟨List.mem_range.2 ha,by simpa using hab⟩),blocks_map (F:=F),sum_ne (b:=b) (f:=fun i=>bSz (F.blk i)) hnd (List.mem_range.2 hb)];have:bSz (F.blk b)=(F.blk b).name.size+10*((F.blk b).phis.length+(F.blk b).insts.length)+phisLen (F.blk b).phis+instsLen (F.blk b).insts:=rfl;omega
theorem put_few(h:fol F a b=true)(hf:fewB F=true):fewB (putF F a b)=true:=by
 obtain⟨ha,hb,-,-,hab,-⟩:=fol_parts h;have hs:=put_sz ha hb hab;have hl:=put_len (a:=a) hb;refine few_mk hf ZO rfl rfl ZO hs fun hB h4 x hx=>?_
 have hle:=mem_le_sum (f:=bSz) hx;have hx2:x∈((List.range F.blocks.length).filter fun i=>decide (i≠b)).map (putB F a b):=hx;obtain⟨i,hi,rfl⟩:=List.mem_map.1 hx2;have hi:=List.mem_range.1 (List.mem_filter.1 hi).1;have hO:=hB _ (mem_of_blk hi);have hsz:bSz (putB F a b i)=blkHead (putB F a b i)+phisLen (putB F a b i).phis+instsLen (putB F a b i).insts:=rfl;have hhd:blkHead (putB F a b i)=(putB F a b i).name.size+10*((putB F a b i).phis.length+(putB F a b i).insts.length):=rfl;refine⟨hO.name,by show((F.blk i).phis.map _).length≤400;rw[List.length_map];exact hO.phis,ZO,fun p hp=>?_,fun y hy=>?_⟩
 · obtain⟨q,hq,rfl⟩:=List.mem_map.1 hp
   have:=hO.ph q hq;exact⟨this.1,by show(q.froms.map _).length≤400;rw[List.length_map];exact this.2⟩
 · have hy2:y∈if i=a then(F.blk a).insts++(F.blk b).insts else(F.blk i).insts:=hy
   split at hy2
   · rcases List.mem_append.1 hy2 with h1|h1
     · exact(hB _ (mem_of_blk ha)).ins y h1
     · exact(hB _ (mem_of_blk hb)).ins y h1
   · exact hO.ins y hy2
theorem prN_leW{x:PPhi}:∀k,(prN F i x k).length≤k
 |0=>Nr _
 |k+1=>by
  have:=prN_leW (x:=x) k;rw[prN];split
  · rw[List.length_append];simp;omega
  · exact ZO
theorem phisLen_pr:∀{l:List PPhi},(∀p∈l,p.args.length=p.froms.length)→phisLen (l.map (prPhi F i))≤phisLen l
 |[],_=>Nr _
 |x::l,h=>by
  have h1:=phisLen_pr (l:=l) fun p hp=>h p (List.mem_cons_of_mem _ hp)
  have h2:=h x (List.mem_cons_self ..);rw[List.map_cons,phisLen,phisLen];have h3:(prPhi F i x).froms.length≤x.froms.length:=prN_leW _;have h4:(prPhi F i x).args.length=(prPhi F i x).froms.length:=prAN_len _;omega
theorem pr_sz(hT:typedP F=true):∀i,i≤F.blocks.length→((prBlks F i).map bSz).sum≤((F.blocks.take i).map bSz).sum
 |0,_=>Nz _
 |i+1,h=>by
  have ih:=pr_sz hT i ZO;rw[take_blk1 ZO,List.map_append,List.sum_append,prBlks];split
  · rw[List.map_append,List.sum_append]
    have h1:=phisLen_pr (F:=F) (i:=i) (l:=(F.blk i).phis) fun p hp=>(phi_facts hT ZO hp).2.1
    have h2:bSz (prBlk F i)≤bSz (F.blk i):=by
     unfold bSz blkHead prBlk;simp only[List.length_map];omega
    simp only[List.map_cons,List.map_nil,List.sum_cons,List.sum_nil];omega
  · exact ZO
theorem pr_mem{x:PBlock}:∀{m:Nat},m≤F.blocks.length→x∈prBlks F m→∃i,i<F.blocks.length∧x=prBlk F i
 |0,_,h=>by cases h
 |m+1,hm,h=>by
  rw[prBlks]at h;split at h
  · rcases List.mem_append.1 h with h|h
    · exact pr_mem ZO h
    · exact⟨m,ZO,by simpa using h⟩
  · exact pr_mem ZO h
theorem pr_few(hT:typedP F=true)(hf:fewB F=true):fewB (prF F)=true:=by
 have hs:=pr_sz hT _ (Nr _);rw[List.take_length]at hs;refine few_mk hf (shaped_count (typed_shaped hT)).1 rfl rfl ?_ hs fun hB _ x hx=>?_
 · show(prBlks F _).length≤_
   rw[prBlks_len];exact numP_le _
 · obtain⟨i,hi,rfl⟩:=pr_mem (Nr _) hx
   have hO:=hB _ (mem_of_blk hi);refine⟨hO.name,by show((F.blk i).phis.map _).length≤400;rw[List.length_map];exact hO.phis,hO.insts,fun p hp=>?_,hO.ins⟩;obtain⟨q,hq,rfl⟩:=List.mem_map.1 hp;have h2:=(hO.ph q hq).2;have h3:(prPhi F i q).froms.length≤q.froms.length:=prN_leW _;have h4:(prPhi F i q).args.length=(prPhi F i q).froms.length:=prAN_len _;exact⟨ZO,ZO⟩
theorem PutT.few_end:∀(m:Nat) {G:PFunc},PutT F G→fewB G=true→G.blocks.length≤m→∃H,PutT F H∧fewB H=true∧∀a b,fol H a b=false
 |0,G,h,_,hl=>by have:=h.s.pos;omega
 |m+1,G,h,hf,hl=>by
  by_cases e:∃a b,fol G a b=true
  · obtain⟨a,b,hq⟩:=e
    obtain⟨h1,h2⟩:=h.put hq;exact PutT.few_end m h1 (put_few hq hf) ZO
  · refine⟨G,h,hf,fun a b=>?_⟩
    cases h2:fol G a b
    · rfl
    · exact absurd ⟨a,b,h2⟩ e
theorem straight_few(hT:typedP F=true)(hJ:joinedB F=true)(hA:∀k,k<F.blocks.length→k∈postO F)(hf:fewB F=true)(h:IsT F G):fewB G=true:=by
 obtain⟨H,h1,h2,h3⟩:=PutT.few_end _ (PutT.refl hT hJ hA) hf (Nr _);obtain rfl:=IsT.uniq (typed_rk hT hA) (typed_rg hT) h (h1.s.fin h3);exact h2
end
end Go.Proofs.YthhjlbflpjhahaaGreatDoor
