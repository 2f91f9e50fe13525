/- Of a program without what isn't reached all blocks are reached. -/
import Derived.Test.YthhjlbflpjhahaaGreatDoorTdAZ
import Derived.Test.YthhjlbflpjhahaaGreatDoorPrJZ
import Derived.Test.YthhjlbflpjhahaaGreatDoorTdPZ
namespace Go.Proofs.YthhjlbflpjhahaaGreatDoor
open Go.RowKit
set_option maxRecDepth 100000
section
variable {F:PFunc}
theorem num_zero:numP F 0=0:=by
 have:=numP_le (F:=F) 0;omega
theorem pr_reach(hT:typedP F=true)(hP:typedP (prF F)=true):∀(m j:Nat),ordR F j≤m→j∈postO F→numP F j∈postO (prF F):=by
 have fin:=post_fin hT;have finP:=post_fin hP;intro m
 induction m with
 |zero=>
  intro j hm hj;have:=(pl_pos fin).2 hj;unfold ordR at hm;omega
 |succ m ih=>
  intro j hm hj;rcases pl_before fin hj with h1|⟨x,hx,he,hl⟩
  · rw[h1,num_zero]
    exact List.mem_of_getLast? finP.last
  · have h2:=ih x (by unfold ordR at hm ⊢;omega) hx
    have hxt:=(thB_iff (fin.lt x hx)).2 hx;have hjt:=(thB_iff (fin.lt j hj)).2 hj;refine finP.clo _ h2 _ ((EN_leads hP (numP_top hxt)).2 ?_);rw[leads_pr hT hjt hxt];exact(EN_leads hT (fin.lt x hx)).1 he
theorem pr_all(hT:typedP F=true)(hP:typedP (prF F)=true):∀k,k<(prF F).blocks.length→k∈postO (prF F):=by
 intro k hk;obtain⟨j,hj,rfl⟩:=blk_hit hk;exact pr_reach hT hP _ j (Nr _) ((thB_iff (thB_lt hj)).1 hj)
theorem num_self(hA:∀k,k<F.blocks.length→k∈postO F):∀i,i≤F.blocks.length→numP F i=i
 |0,_=>num_zero
 |i+1,hi=>by rw[numP_yes ((thB_iff ZO).2 (hA i ZO)),num_self hA i ZO]
theorem prPhi_self{i:Nat}{x:PPhi}(hT:typedP F=true)(hJ:joinedB F=true)(hA:∀k,k<F.blocks.length→k∈postO F)(hi:i<F.blocks.length)(hx:x∈(F.blk i).phis):prPhi F i x=x:=by
 have hf:=phi_facts hT hi hx;have hp:=joined_phi hT hJ hi hx;have hk:∀k,k<x.froms.length→keepF F i (ith x.froms k)=true∧((numP F (ith x.froms k).toNat:Nat):Int)=ith x.froms k:=fun k hk=>by
  obtain⟨h1,h2⟩:=hf.2.2.2 k hk;have h3:(ith x.froms k).toNat<F.blocks.length:=by omega
  have hm:=(hp.mem_iff).1 (List.mem_of_getElem? (ith_get hk));unfold ints at hm;obtain⟨a,ha,e⟩:=List.mem_map.1 hm;obtain⟨h4,h5⟩:=predRow_mem.1 ha;refine⟨keepF_iff.2 ⟨?_,(thB_iff h3).2 (hA _ h3)⟩,by rw[num_self hA _ ZO];omega⟩;have e:(a:Int)=ith x.froms k:=e;have:(ith x.froms k).toNat=a:=by omega
  rw[this];exact h5
 have hA1:∀k,k≤x.froms.length→prA F i x k=x.args.take k:=by
  intro k
  induction k with
  |zero=>intro _;rfl
  |succ k ih=>
   intro h;rw[prA,if_pos (hk k ZO).1,ih ZO];have h1:k<x.args.length:=by rw[hf.2.1];omega
   rw[List.take_add_one,ith_get h1];rfl
 have hN1:∀k,k≤x.froms.length→prN F i x k=x.froms.take k:=by
  intro k
  induction k with
  |zero=>intro _;rfl
  |succ k ih=>
   intro h;rw[prN,if_pos (hk k ZO).1,ih ZO,(hk k ZO).2];rw[List.take_add_one,ith_get (by omega:k<x.froms.length)];rfl
 unfold prPhi;rw[hA1 _ (Nr _),hN1 _ (Nr _),List.take_length,← hf.2.1,List.take_length]
theorem pr_self(hT:typedP F=true)(hJ:joinedB F=true)(hA:∀k,k<F.blocks.length→k∈postO F):prF F=F:=by
 have hb:∀i,i<F.blocks.length→prBlk F i=F.blk i:=fun i hi=>by
  have e1:(F.blk i).phis.map (prPhi F i)=(F.blk i).phis:=by
   conv=>rhs;rw[← List.map_id (F.blk i).phis]
   exact List.map_congr_left fun x hx=>prPhi_self hT hJ hA hi hx
  have e2:prTerm F (F.blk i).term=(F.blk i).term:=by
   have hg:=typed_rg hT;have h0:=hg.t0 i hi;have h1:=hg.t1 i hi;generalize (F.blk i).term=t at *;unfold prTerm
   by_cases k0:t.kind=0
   · obtain⟨k,hk,hk2⟩:=h0 (.inl k0)
     rw[if_pos k0,num_self hA _ ZO];have:((t.t0.toNat:Nat):Int)=t.t0:=by omega
     rw[this]
   · by_cases k1:t.kind=1
     · obtain⟨k,hk,hk2⟩:=h0 (.inr k1)
       obtain⟨m,hm,hm2⟩:=h1 k1;rw[if_neg k0,if_pos k1,num_self hA _ ZO,num_self hA _ ZO];have e3:((t.t0.toNat:Nat):Int)=t.t0:=by omega
       have e4:((t.t1.toNat:Nat):Int)=t.t1:=by omega
       rw[e3,e4]
     · rw[if_neg k0,if_neg k1]
  unfold prBlk;rw[e1,e2]
 have hl:∀m,m≤F.blocks.length→prBlks F m=F.blocks.take m:=by
  intro m
  induction m with
  |zero=>intro _;rfl
  |succ m ih=>
   intro h;rw[prBlks,if_pos ((thB_iff ZO).2 (hA m ZO)),ih ZO,hb m ZO,List.take_add_one,PFunc.blk_get (by omega:m<F.blocks.length)];rfl
 unfold prF;rw[hl _ (Nr _),List.take_length]
end
section
variable {F:PFunc} {a b i j:Nat}
theorem put_t(h:fol F a b=true)(hT:typedP F=true)(x:Nat)(hx:x<F.blocks.length)(hl:leads (endAt F a b i) (b:Int)=false)(hxl:leads (endAt F a b i) (x:Int)=true)(h0:x≠0):∃k:Nat,tnI a b (x:Int)=k∧k<F.blocks.length-1∧k≠0:=by
 obtain⟨ha,hb,-,-,hab,-⟩:=fol_parts h;have hb0:=typed_first hT h;have hxb:x≠b:=fun e=>by rw[e,hl]at hxl;cases hxl
 refine⟨_,tn_sg hxb,sg_lt hxb hb hx,?_⟩;unfold sg;split<;>omega
theorem put_term(h:fol F a b=true)(hT:typedP F=true)(hi:i<F.blocks.length):termB (putF F a b) (mterm (tnI a b) (endAt F a b i))=true∧termT (putF F a b) (mterm (tnI a b) (endAt F a b i))=true:=by
 obtain⟨ha,hb,-,-,hab,-⟩:=fol_parts h;have hl:=end_ne h hi;have key:∃y,y<F.blocks.length∧endAt F a b i=(F.blk y).term:=by
  unfold endAt;split
  · exact⟨b,hb,rfl⟩
  · exact⟨i,hi,rfl⟩
 obtain⟨y,hy,he⟩:=key;have h1:termB F (endAt F a b i)=true:=by rw[he];exact(shaped_blk (typed_shaped hT) hy).2.2
 have h2:termT F (endAt F a b i)=true:=by
  rw[he];unfold typedP at hT;simp only[Bool.and_eq_true,List.all_eq_true]at hT;have:=hT.2 _ (mem_of_blk hy);unfold blkT at this;simp only[Bool.and_eq_true]at this;exact this.2
 have hn:=put_len (a:=a) hb;have hpt:=put_t h hT (i:=i);generalize endAt F a b i=t at *;have e3:(putF F a b).vars=F.vars:=rfl
 by_cases k0:t.kind=0
 · unfold termB at h1
   unfold termT at h2;rw[if_pos k0]at h1 h2;simp only[Bool.and_eq_true,decide_eq_true_eq]at h1;obtain⟨⟨g1,g2⟩,g3⟩:=h1;obtain⟨g4,g5⟩:=inB_true g1;obtain⟨x,hx⟩:∃x:Nat,t.t0=x:=⟨t.t0.toNat,ZO⟩;obtain⟨k,hk,hk1,hk2⟩:=hpt x ZO hl (by unfold leads;simp[k0,hx]) (fun e=>by rw[hx,e]at h2;simp at h2);unfold mterm;rw[if_pos k0,hx,hk];unfold termB termT;rw[if_pos (show t.kind=0 from k0),if_pos (show t.kind=0 from k0),hn];simp only[Bool.and_eq_true,decide_eq_true_eq];refine⟨⟨⟨inB_mk ⟨ZO,ZO⟩,g2⟩,g3⟩,?_⟩;simp;omega
 · by_cases k1:t.kind=1
   · unfold termB at h1
     unfold termT at h2;rw[if_neg k0,if_pos k1]at h1 h2;simp only[Bool.and_eq_true]at h1 h2;obtain⟨⟨g1,g2⟩,g3⟩:=h1;obtain⟨⟨g4,g5⟩,g6⟩:=h2;obtain⟨p1,p2⟩:=inB_true g2;obtain⟨p3,p4⟩:=inB_true g3;obtain⟨x,hx⟩:∃x:Nat,t.t0=x:=⟨t.t0.toNat,ZO⟩;obtain⟨z,hz⟩:∃z:Nat,t.t1=z:=⟨t.t1.toNat,ZO⟩;obtain⟨k,hk,hk1,hk2⟩:=hpt x ZO hl (by unfold leads;simp[k1,hx]) (fun e=>by rw[hx,e]at g5;simp at g5);obtain⟨m,hm,hm1,hm2⟩:=hpt z ZO hl (by unfold leads;simp[k1,hz]) (fun e=>by rw[hz,e]at g6;simp at g6);unfold mterm;rw[if_neg k0,if_pos k1,hx,hz,hk,hm];unfold termB termT;rw[if_neg (show ¬t.kind=0 from k0),if_pos (show t.kind=1 from k1),if_neg (show ¬t.kind=0 from k0),if_pos (show t.kind=1 from k1),hn];simp only[Bool.and_eq_true];refine⟨⟨⟨g1,inB_mk ⟨ZO,ZO⟩⟩,inB_mk ⟨ZO,ZO⟩⟩,⟨g4,?_⟩,?_⟩<;>simp<;>omega
   · unfold mterm
     rw[if_neg k0,if_neg k1];unfold termB at h1 ⊢;unfold termT at h2 ⊢;rw[if_neg k0,if_neg k1]at h1 h2 ⊢;exact⟨h1,by rw[if_neg k0,if_neg k1];exact h2⟩
theorem sumB_eq:∀{l:List PBlock},sumB l=(l.map fun x=>x.phis.length+x.insts.length).sum
 |[]=>rfl
 |x::l=>by rw[sumB,List.map_cons,List.sum_cons,sumB_eq]
theorem blocks_map{α:Type}(f:PBlock→α):F.blocks.map f=(List.range F.blocks.length).map fun i=>f (F.blk i):=by
 refine List.ext_getElem ZS fun i h1 h2=>?_
 have h3:i<F.blocks.length:=by simpa using h1
 have h4:=PFunc.blk_get h3;rw[List.getElem?_eq_getElem h3]at h4;rw[List.getElem_map,List.getElem_map,List.getElem_range,Option.some.inj h4]
theorem ty_put(v:Int):tyOf (putF F a b) v=tyOf F v:=rfl
theorem takes_put:∀(l m:List Int),takesT (putF F a b) l m=takesT F l m
 |[],m=>by cases m<;>rfl
 |a::l,[]=>rfl
 |a::l,t::m=>by rw[takesT,takesT,takes_put l m,ty_put]
theorem inst_put(y:PInst):instT (putF F a b) y=instT F y:=by
 unfold instT;rw[takes_put];rfl
theorem put_phi{p:PPhi}(h:fol F a b=true)(hp:phiB F p=true):phiB (putF F a b) (mphi (tnI a b) p)=true:=by
 obtain⟨ha,hb,-,-,hab,-⟩:=fol_parts h;unfold phiB at hp ⊢;simp only[Bool.and_eq_true,decide_eq_true_eq]at hp ⊢;obtain⟨⟨⟨⟨h1,h2⟩,h3⟩,h4⟩,h5⟩:=hp;refine⟨⟨⟨⟨h1,by show p.args.length=(p.froms.map _).length;rw[List.length_map];exact h2⟩,h3⟩,h4⟩,?_⟩;unfold atsB at h5 ⊢;rw[List.all_eq_true]at h5 ⊢;intro y hy;obtain⟨x,hx,rfl⟩:=List.mem_map.1 hy;obtain⟨g1,g2⟩:=inB_true (h5 x hx);obtain⟨k,rfl⟩:∃k:Nat,x=k:=⟨x.toNat,ZO⟩;rw[put_len hb]
 by_cases e:k=b
 · subst e
   rw[tn_b];exact inB_mk ⟨ZO,by have:=sg_lt hab hb ha;omega⟩
 · rw[tn_sg e]
   exact inB_mk ⟨ZO,by have:=sg_lt e hb (by omega:k<F.blocks.length);omega⟩
theorem put_typed(h:fol F a b=true)(hT:typedP F=true):typedP (putF F a b)=true:=by
 obtain⟨ha,hb,-,-,hab,-,hph⟩:=fol_parts h;have hS:=typed_shaped hT;have hnd:(List.range F.blocks.length).Nodup:=List.nodup_range;have hbk:(putF F a b).blocks=((List.range F.blocks.length).filter fun i=>decide (i≠b)).map (putB F a b):=rfl;have hin:∀i,i<F.blocks.length→∀x∈(putB F a b i).insts,∃j,j<F.blocks.length∧x∈(F.blk j).insts:=fun i hi x hx=>by
  unfold putB at hx;simp only at hx;split at hx
  · rcases List.mem_append.1 hx with h1|h1
    · exact⟨a,ha,h1⟩
    · exact⟨b,hb,h1⟩
  · exact⟨i,hi,hx⟩
 have hbl:∀i,i<F.blocks.length→blkT F (F.blk i)=true:=fun i hi=>by
  unfold typedP at hT;simp only[Bool.and_eq_true,List.all_eq_true]at hT;exact hT.2 _ (mem_of_blk hi)
 unfold typedP;rw[Bool.and_eq_true];constructor
 · unfold shapedP at hS⊢
   simp only[Bool.and_eq_true,decide_eq_true_eq]at hS ⊢;refine⟨⟨?_,?_⟩,?_⟩
   · have hn:=hS.1.1
     unfold namesB at hn ⊢;simp only[Bool.and_eq_true,decide_eq_true_eq]at hn ⊢;obtain⟨⟨⟨⟨⟨⟨⟨⟨n1,n2⟩,n3⟩,n4⟩,n5⟩,n6⟩,n7⟩,n8⟩,n9⟩:=hn;have hl:=put_len (a:=a) hb;refine⟨⟨⟨⟨⟨⟨⟨⟨n1,n2⟩,n3⟩,n4⟩,n5⟩,ZO⟩,ZO⟩,n8⟩,unlike_sub ?_ (fun x hx=>by cases hx) n9⟩;unfold bnames;rw[hbk,List.map_map,blocks_map (F:=F)];exact List.Sublist.map _ List.filter_sublist
   · rw[List.all_eq_true]
     intro x hx;rw[hbk]at hx;obtain⟨i,hi,rfl⟩:=List.mem_map.1 hx;have hi:=List.mem_range.1 (List.mem_filter.1 hi).1;unfold blockB;simp only[Bool.and_eq_true];refine⟨⟨any_not fun y hy=>?_,any_not fun y hy=>?_⟩,(put_term h hT hi).1⟩
     · obtain⟨p,hp,rfl⟩:=List.mem_map.1 hy
       exact put_phi h ((shaped_blk (typed_shaped hT) hi).1 p hp)
     · obtain⟨j,hj,hy2⟩:=hin i hi y hy
       exact(shaped_blk (typed_shaped hT) hj).2.1 y hy2
   · have h1:=hS.2
     rw[sumB_eq,blocks_map (F:=F),sum_ne (b:=b) hnd (List.mem_range.2 hb),hph]at h1;rw[sumB_eq,hbk,List.map_map];have e1:(((List.range F.blocks.length).filter fun i=>decide (i≠b)).map ((fun x:PBlock=>x.phis.length+x.insts.length)∘putB F a b))=(((List.range F.blocks.length).filter fun i=>decide (i≠b)).map fun i=>if i=a then((F.blk i).phis.length+(F.blk i).insts.length)+(F.blk b).insts.length else(F.blk i).phis.length+(F.blk i).insts.length):=by
      refine List.map_congr_left fun i _=>?_
      show((F.blk i).phis.map (mphi (tnI a b))).length+(if i=a then(F.blk a).insts++(F.blk b).insts else(F.blk i).insts).length=_;rw[List.length_map]
      by_cases e:i=a
      · rw[if_pos e,if_pos e,List.length_append,e]
        omega
      · rw[if_neg e,if_neg e]
     rw[e1,sum_at (f:=fun i=>(F.blk i).phis.length+(F.blk i).insts.length) (hnd.filter _),if_pos (List.mem_filter.2 ⟨List.mem_range.2 ha,by simpa using hab⟩)];simpa using h1
 · rw[List.all_eq_true]
   intro x hx;rw[hbk]at hx;obtain⟨i,hi,rfl⟩:=List.mem_map.1 hx;have hi:=List.mem_range.1 (List.mem_filter.1 hi).1;unfold blkT;simp only[Bool.and_eq_true,List.all_eq_true];refine⟨⟨fun y hy=>?_,fun y hy=>?_⟩,(put_term h hT hi).2⟩
   · obtain⟨p,hp,rfl⟩:=List.mem_map.1 hy
     have:=hbl i hi;unfold blkT at this;simp only[Bool.and_eq_true,List.all_eq_true]at this;exact this.1.1 p hp
   · obtain⟨j,hj,hy2⟩:=hin i hi y hy
     have:=hbl j hj;unfold blkT at this;simp only[Bool.and_eq_true,List.all_eq_true]at this;rw[inst_put];exact this.1.2 y hy2
theorem nodup_map{f:Int→Int}:∀{l:List Int},l.Nodup→(∀x∈l,∀y∈l,f x=f y→x=y)→(l.map f).Nodup
 |[],_,_=>List.nodup_nil
 |x::l,hn,h=>by
  obtain⟨h1,h2⟩:=List.nodup_cons.1 hn;rw[List.map_cons,List.nodup_cons];refine⟨fun hm=>?_,nodup_map h2 fun y hy z hz=>h y (List.mem_cons_of_mem _ hy) z (List.mem_cons_of_mem _ hz)⟩;obtain⟨y,hy,e⟩:=List.mem_map.1 hm;have:=h y (List.mem_cons_of_mem _ hy) x (List.mem_cons_self ..) e;exact h1 (this▸hy)
theorem put_nolead(h:fol F a b=true){c:Nat}(hc:c≠b):leads (F.blk a).term (c:Int)=false:=by
 obtain⟨-,-,hk,ht,-⟩:=fol_parts h;unfold leads;rw[decide_eq_false_iff_not,hk,ht];rintro(⟨-,e⟩|⟨e,-⟩)
 · exact hc ZO
 · cases e
theorem put_perm{p:PPhi}(h:fol F a b=true)(hT:typedP F=true)(hJ:joinedB F=true)(hj:j<F.blocks.length-1)(hp:p∈(F.blk (up b j)).phis):(p.froms.map (tnI a b)).Perm (ints (predRow (putF F a b) j (putF F a b).blocks.length)):=by
 obtain⟨ha,hb,-,-,hab,-⟩:=fol_parts h;have hg:=typed_rg hT;have hu:=up_lt hb hj;have hpm:=joined_phi hT hJ hu hp;have hnd:p.froms.Nodup:=(hpm.nodup_iff).2 ((ints_pair (predRow_pair _)).imp fun h=>ZO);have hno:=put_nolead h (c:=up b j) up_ne;have hmem:∀x:Int,x∈p.froms↔∃k:Nat,x=k∧k<F.blocks.length∧leads (F.blk k).term ((up b j:Nat):Int)=true:=fun x=>by
  rw[hpm.mem_iff];unfold ints;rw[List.mem_map];constructor
  · rintro⟨k,h1,rfl⟩
    obtain⟨h2,h3⟩:=predRow_mem.1 h1;exact⟨k,rfl,h2,h3⟩
  · rintro⟨k,rfl,h2,h3⟩
    exact⟨k,predRow_mem.2 ⟨h2,h3⟩,rfl⟩
 have hn2:(p.froms.map (tnI a b)).Nodup:=by
  refine nodup_map hnd fun x hx y hy e=>?_
  obtain⟨k,rfl,hk,h2⟩:=(hmem x).1 hx;obtain⟨m,rfl,hm,h3⟩:=(hmem y).1 hy;have hka:k≠a:=fun e=>by rw[e,hno]at h2;cases h2
  have hma:m≠a:=fun e=>by rw[e,hno]at h3;cases h3
  have:k=m:=by
   by_cases e1:k=b
   · by_cases e2:m=b
     · rw[e1,e2]
     · rw[e1,tn_b,tn_sg e2]at e
       have:=congrArg (up b) (Int.ofNat.inj e);rw[up_sg hab,up_sg e2]at this;exact absurd this.symm hma
   · by_cases e2:m=b
     · rw[e2,tn_b,tn_sg e1]at e
       have:=congrArg (up b) (Int.ofNat.inj e);rw[up_sg hab,up_sg e1]at this;exact absurd this hka
     · rw[tn_sg e1,tn_sg e2]at e
       have:=congrArg (up b) (Int.ofNat.inj e);rw[up_sg e1,up_sg e2]at this;exact this
  rw[this]
 refine(List.perm_ext_iff_of_nodup hn2 ((ints_pair (predRow_pair _)).imp fun h=>ZO)).2 fun v=>?_
 unfold ints;rw[List.mem_map,List.mem_map];constructor
 · rintro⟨x,hx,rfl⟩
   obtain⟨k,rfl,hk,h2⟩:=(hmem x).1 hx
   by_cases e1:k=b
   · subst e1
     have h4:=sg_lt hab hb ha;refine⟨sg k a,predRow_mem.2 ⟨by rw[put_len hb];exact h4,?_⟩,tn_b.symm⟩;rw[put_leads h hg h4,up_sg hab];unfold endAt;rw[if_pos rfl];exact h2
   · have h4:=sg_lt e1 hb hk
     have hka:k≠a:=fun e=>by rw[e,hno]at h2;cases h2
     refine⟨sg b k,predRow_mem.2 ⟨by rw[put_len hb];exact h4,?_⟩,(tn_sg e1).symm⟩;rw[put_leads h hg h4,up_sg e1];unfold endAt;rw[if_neg hka];exact h2
 · rintro⟨y,hy,rfl⟩
   obtain⟨h1,h2⟩:=predRow_mem.1 hy;rw[put_len hb]at h1;rw[put_leads h hg h1]at h2;unfold endAt at h2
   by_cases e:up b y=a
   · rw[if_pos e]at h2
     refine⟨(b:Int),(hmem _).2 ⟨b,rfl,hb,h2⟩,?_⟩;show tnI a b (b:Int)=(y:Int);rw[tn_b,← e,sg_up]
   · rw[if_neg e]at h2
     refine⟨((up b y:Nat):Int),(hmem _).2 ⟨_,rfl,up_lt hb h1,h2⟩,?_⟩;show tnI a b ((up b y:Nat):Int)=(y:Int);rw[tn_sg up_ne,sg_up]
theorem put_joined(h:fol F a b=true)(hT:typedP F=true)(hJ:joinedB F=true):joinedB (putF F a b)=true:=by
 obtain⟨ha,hb,-,-,hab,-⟩:=fol_parts h;have hT2:=put_typed h hT;unfold joinedB;rw[List.all_eq_true];intro k hk;have hk2:k<(putF F a b).blocks.length:=by simpa using hk
 have hk3:k<F.blocks.length-1:=by rwa [put_len hb]at hk2
 rw[List.all_eq_true];intro y hy;rw[put_blk hb hk3]at hy;obtain⟨x,hx,rfl⟩:=List.mem_map.1 hy;rw[joinPhi,decide_eq_true_iff,show(predsOf (putF F a b)).getD k []=ints (predRow (putF F a b) k (putF F a b).blocks.length)from predsF_row hT2 hk2 _ (Nr _),sort_row (ints_pair (predRow_pair _))];exact put_perm h hT hJ hk3 hx
theorem put_reach(h:fol F a b=true)(hT:typedP F=true)(hA:∀k,k<F.blocks.length→k∈postO F):∀(m j:Nat),ordR F j≤m→j<F.blocks.length→j≠b→sg b j∈postO (putF F a b):=by
 obtain⟨ha,hb,-,-,hab,-⟩:=fol_parts h;have hg:=typed_rg hT;have fin:=post_fin hT;have hT2:=put_typed h hT;have finP:=post_fin hT2;have hb0:=typed_first hT h;have hst:∀x j,x<F.blocks.length→j<F.blocks.length→x≠b→j≠b→sg b x∈postO (putF F a b)→leads (endAt F a b x) (j:Int)=true→sg b j∈postO (putF F a b):=fun x j hx hj hxb hjb hm hl=>by
  have h4:=sg_lt hxb hb hx;refine finP.clo _ hm _ ((EN_leads hT2 (by rw[put_len hb];exact h4)).2 ?_);rw[put_leads h hg h4,up_sg hxb,up_sg hjb];exact hl
 intro m
 induction m with
 |zero=>
  intro j hm hj hjb;have:=(pl_pos fin).2 (hA j hj);unfold ordR at hm;omega
 |succ m ih=>
  intro j hm hj hjb;rcases pl_before fin (hA j hj)with h1|⟨x,hx,he,hl⟩
  · rw[h1]
    have:sg b 0=0:=by unfold sg;rw[if_neg ZO]
    rw[this];exact List.mem_of_getLast? finP.last
  · have hxn:=fin.lt x hx
    have hld:=(EN_leads hT hxn).1 he;have hlt:ordR F x<ordR F j:=hl
    by_cases e:x=b
    · subst e
      have hra:ordR F a<ordR F x:=typed_rk hT hA _ _ h;refine hst a j ha hj hab hjb (ih a ZO ha hab) ?_;unfold endAt;rw[if_pos rfl];exact hld
    · have hxa:x≠a:=fun e2=>by rw[e2,put_nolead h hjb]at hld;cases hld
      refine hst x j hxn hj e hjb (ih x ZO hxn e) ?_;unfold endAt;rw[if_neg hxa];exact hld
theorem put_all(h:fol F a b=true)(hT:typedP F=true)(hA:∀k,k<F.blocks.length→k∈postO F):∀k,k<(putF F a b).blocks.length→k∈postO (putF F a b):=by
 obtain⟨ha,hb,-,-,hab,-⟩:=fol_parts h;intro k hk;rw[put_len hb]at hk;have:=put_reach h hT hA _ (up b k) (Nr _) (up_lt hb hk) up_ne
 rwa [sg_up]at this
structure PutT (F G:PFunc):Prop where
 s:PutS F G
 t:typedP G=true
 j:joinedB G=true
 a:∀k,k<G.blocks.length→k∈postO G
variable {G:PFunc}
theorem PutT.refl(hT:typedP F=true)(hJ:joinedB F=true)(hA:∀k,k<F.blocks.length→k∈postO F):PutT F F:=
 ⟨PutS.refl (typed_rk hT hA) (typed_rg hT) (shaped_count (typed_shaped hT)).1,hT,hJ,hA⟩
theorem PutT.put(h:PutT F G)(hf:fol G a b=true):PutT F (putF G a b)∧(putF G a b).blocks.length<G.blocks.length:=
 ⟨⟨(h.s.put hf).1,put_typed hf h.t,put_joined hf h.t h.j,put_all hf h.t h.a⟩,(h.s.put hf).2⟩
theorem PutT.end_:∀(m:Nat) {G:PFunc},PutT F G→G.blocks.length≤m→∃H,PutT F H∧∀a b,fol H a b=false
 |0,G,h,hl=>by have:=h.s.pos;omega
 |m+1,G,h,hl=>by
  by_cases e:∃a b,fol G a b=true
  · obtain⟨a,b,hf⟩:=e
    obtain⟨h1,h2⟩:=h.put hf;exact PutT.end_ m h1 ZO
  · refine⟨G,h,fun a b=>?_⟩
    cases h2:fol G a b
    · rfl
    · exact absurd ⟨a,b,h2⟩ e
theorem straight_none(hT:typedP F=true)(hJ:joinedB F=true)(hA:∀k,k<F.blocks.length→k∈postO F)(h:IsT F G):PutT F G∧∀a b,fol G a b=false:=by
 obtain⟨H,h1,h2⟩:=PutT.end_ _ (PutT.refl hT hJ hA) (Nr _);obtain rfl:=IsT.uniq (typed_rk hT hA) (typed_rg hT) h (h1.s.fin h2);exact⟨h1,h2⟩
end
end Go.Proofs.YthhjlbflpjhahaaGreatDoor
