/- The plain law: what is joined is joined and shaped once more without what isn't reached. -/
import Derived.Test.YthhjlbflpjhahaaGreatDoorMemZ
namespace Go.Proofs.YthhjlbflpjhahaaGreatDoor
open Go.RowKit
set_option maxRecDepth 100000
section
variable {F:PFunc} {i j k:Nat} {x:PPhi}
theorem prBlks_get{n:Nat}:∀{m:Nat},n<m→thB F n=true→(prBlks F m)[numP F n]?=some (prBlk F n)
 |0,h,_=>absurd h (Nat.not_lt_zero _)
 |m+1,h,ht=>by
  have hl:=prBlks_len (F:=F) m
  by_cases e:n=m
  · subst e
    rw[prBlks_yes ht,List.getElem?_append_right ZO,hl,Nat.sub_self];rfl
  · have hlt:n<m:=by omega
    have ih:=prBlks_get hlt ht;have hnl:=numP_lt hlt ht;rw[prBlks];split
    · rw[List.getElem?_append_left ZO]
      exact ih
    · exact ih
theorem pr_blk(ht:thB F i=true):(prF F).blk (numP F i)=prBlk F i:=by
 have:=prBlks_get (thB_lt ht) ht;unfold PFunc.blk;rw[List.getD_eq_getElem?_getD];show((prBlks F F.blocks.length)[numP F i]?).getD default=prBlk F i;rw[this];rfl
theorem numP_inj(hi:thB F i=true)(hj:thB F j=true)(h:numP F i=numP F j):i=j:=by
 rcases Nat.lt_trichotomy i j with h1|h1|h1
 · have:=numP_lt h1 hi
   omega
 · exact h1
 · have:=numP_lt h1 hj
   omega
theorem prN_mem{p:Nat}(hp:thB F p=true)(hl:leads (F.blk p).term (i:Int)=true)(h0:∀k,k<x.froms.length→0≤ith x.froms k):∀k,k≤x.froms.length→((numP F p:Int)∈prN F i x k↔(p:Int)∈x.froms.take k)
 |0,_=>by simp[prN]
 |k+1,hk=>by
  have ih:=prN_mem hp hl h0 k ZO;have hget:=ith_get (show k<x.froms.length from ZO);have hz:=h0 k ZO;rw[List.take_add_one,hget,List.mem_append,← ih];rw[prN];split
  · rename_i hkp
    rw[List.mem_append];refine or_congr_right ?_;unfold keepF at hkp;rw[Bool.and_eq_true]at hkp;simp only[List.mem_singleton,Option.toList];constructor
    · intro h
      have:=numP_inj hp hkp.2 ZO;omega
    · intro h
      rw[← h];simp
  · rename_i hkp
    constructor
    · exact .inl
    · rintro(h|h)
      · exact h
      · simp only[List.mem_singleton,Option.toList]at h
        refine absurd ?_ hkp;unfold keepF;rw[← h,Int.toNat_natCast,hl,hp];rfl
end
theorem unlike_sub{l m:List ByteArray}(h:l.Sublist m):∀{s t:List ByteArray},(∀x∈s,x∈t)→unlikeB t m=true→unlikeB s l=true:=by
 induction h with
 |slnil=>intro s t _ _;unfold unlikeB;rfl
 |cons a h ih=>
  intro s t hs hm;rw[unlikeB,Bool.and_eq_true]at hm;exact ih (fun x hx=>List.mem_append.2 (.inl (hs x hx))) hm.2
 |cons_cons a h ih=>
  intro s t hs hm;rw[unlikeB,Bool.and_eq_true,Bool.and_eq_true]at hm;rw[unlikeB,Bool.and_eq_true,Bool.and_eq_true];refine⟨⟨hm.1.1,?_⟩,ih (fun x hx=>?_) hm.2⟩
  · have h2:=hm.1.2
    unfold memB at h2 ⊢;simp only[Bool.not_eq_true',List.any_eq_false,decide_eq_true_eq]at h2 ⊢;exact fun x hx=>h2 x (hs x hx)
  · rcases List.mem_append.1 hx with hx|hx
    · exact List.mem_append.2 (.inl (hs x hx))
    · exact List.mem_append.2 (.inr hx)
theorem sumB_app:∀(l m:List PBlock),sumB (l++m)=sumB l+sumB m
 |[],m=>by simp[sumB]
 |b::l,m=>by
  rw[List.cons_append,sumB,sumB,sumB_app l m];omega
section
variable {F:PFunc} {i j k:Nat} {x:PPhi}
theorem take_blk1(h:i<F.blocks.length):F.blocks.take (i+1)=F.blocks.take i++[F.blk i]:=by
 rw[List.take_add_one,PFunc.blk_get h];rfl
theorem pr_names:∀i,i≤F.blocks.length→((prBlks F i).map (·.name)).Sublist ((F.blocks.take i).map (·.name))
 |0,_=>by simp[prBlks]
 |i+1,hi=>by
  have ih:=pr_names i ZO;rw[take_blk1 ZO,prBlks,List.map_append];split
  · rw[List.map_append]
    exact ih.append (List.Sublist.refl _)
  · exact ih.trans (List.sublist_append_left _ _)
theorem pr_sum:∀i,i≤F.blocks.length→sumB (prBlks F i)≤sumB (F.blocks.take i)
 |0,_=>by simp[prBlks]
 |i+1,hi=>by
  have ih:=pr_sum i ZO;rw[take_blk1 ZO,prBlks,sumB_app];split
  · rw[sumB_app]
    have:sumB [prBlk F i]=sumB [F.blk i]:=by simp[sumB,prBlk]
    omega
  · exact ZO
theorem numP_top(hj:thB F j=true):numP F j<(prF F).blocks.length:=by
 show _<(prBlks F F.blocks.length).length;rw[prBlks_len];exact numP_lt (thB_lt hj) hj
theorem numP_hit:∀(m k:Nat),k<numP F m→∃j,j<m∧thB F j=true∧numP F j=k
 |0,k,h=>absurd h (Nat.not_lt_zero _)
 |m+1,k,h=>by
  rw[numP]at h;split at h
  · rename_i ht
    by_cases e:k=numP F m
    · exact⟨m,ZO,ht,e.symm⟩
    · obtain⟨j,h1,h2,h3⟩:=numP_hit m k ZO
      exact⟨j,ZO,h2,h3⟩
  · obtain⟨j,h1,h2,h3⟩:=numP_hit m k h
    exact⟨j,ZO,h2,h3⟩
theorem blk_hit(h:k<(prF F).blocks.length):∃j,thB F j=true∧numP F j=k:=by
 have h2:k<(prBlks F F.blocks.length).length:=h;rw[prBlks_len]at h2;obtain⟨j,-,h3,h4⟩:=numP_hit _ _ h2;exact⟨j,h3,h4⟩
theorem leads_pr(hT:typedP F=true)(hi:thB F i=true)(hj:thB F j=true):leads ((prF F).blk (numP F j)).term ((numP F i:Nat):Int)=leads (F.blk j).term (i:Int):=by
 rw[pr_blk hj];show leads (prTerm F (F.blk j).term) _=_;have he:=fun c hc=>thB_ends hT hj (c:=c) hc
 generalize (F.blk j).term=t at *;have key:∀c:Int,c∈endsOf t→(((numP F c.toNat:Nat):Int)=((numP F i:Nat):Int)↔c=(i:Int)):=fun c hc=>by
  have h:=he c hc;constructor
  · intro e
    have:=numP_inj h.2.2 hi ZO;omega
  · rintro rfl
    simp
 rw[Bool.eq_iff_iff];unfold leads prTerm
 by_cases h0:t.kind=0
 · have:=key t.t0 (by unfold endsOf;rw[if_pos h0];simp)
   rw[if_pos h0];simp[h0,this]
 · by_cases h1:t.kind=1
   · have k0:=key t.t0 (by unfold endsOf;rw[if_neg h0,if_pos h1];split<;>simp)
     have k1:=key t.t1 (by
      unfold endsOf;rw[if_neg h0,if_pos h1];split
      · rename_i e;simp[e]
      · simp)
     rw[if_neg h0,if_pos h1];simp[h1,k0,k1]
   · rw[if_neg h0,if_neg h1]
     simp[h0,h1]
theorem prN_in{v:Int}:∀{k:Nat},v∈prN F i x k↔∃j,j<k∧keepF F i (ith x.froms j)=true∧v=(numP F (ith x.froms j).toNat:Int)
 |0=>by simp[prN]
 |k+1=>by
  rw[prN];split
  · rename_i hk
    rw[List.mem_append,prN_in,List.mem_singleton];constructor
    · rintro(⟨j,h1,h2⟩|h)
      · exact⟨j,ZO,h2⟩
      · exact⟨k,ZO,hk,h⟩
    · rintro⟨j,h1,h2,h3⟩
      by_cases e:j=k
      · subst e;exact .inr h3
      · exact .inl ⟨j,ZO,h2,h3⟩
  · rename_i hk
    rw[prN_in];constructor
    · rintro⟨j,h1,h2⟩;exact⟨j,ZO,h2⟩
    · rintro⟨j,h1,h2,h3⟩
      by_cases e:j=k
      · subst e;exact absurd h2 hk
      · exact⟨j,ZO,h2,h3⟩
theorem keepF_iff{a:Int}:keepF F i a=true↔leads (F.blk a.toNat).term (i:Int)=true∧thB F a.toNat=true:=by
 unfold keepF;rw[Bool.and_eq_true]
theorem prN_nodup(h0:∀k,k<x.froms.length→0≤ith x.froms k)(hn:x.froms.Nodup):∀k,k≤x.froms.length→(prN F i x k).Nodup
 |0,_=>by simp[prN]
 |k+1,hk=>by
  have ih:=prN_nodup h0 hn k ZO;rw[prN];split
  · rename_i hkp
    rw[List.nodup_append];refine⟨ih,List.nodup_cons.2 ⟨ZS,List.nodup_nil⟩,fun a ha b hb e=>?_⟩;rw[List.mem_singleton]at hb;subst hb;obtain⟨j,h1,h2,h3⟩:=prN_in.1 (e▸ha);have h4:=numP_inj (keepF_iff.1 hkp).2 (keepF_iff.1 h2).2 ZO;have z1:=h0 k ZO;have z2:=h0 j ZO;exact nodup_ith.1 hn k ZO j h1 ZO
  · exact ih
theorem joined_phi(hT:typedP F=true)(hJ:joinedB F=true)(hi:i<F.blocks.length)(hx:x∈(F.blk i).phis):x.froms.Perm (ints (predRow F i F.blocks.length)):=by
 unfold joinedB at hJ;rw[List.all_eq_true]at hJ;have h:=List.all_eq_true.1 (hJ i (by simpa using hi)) x hx;rw[joinPhi,decide_eq_true_iff,show(predsOf F).getD i []=ints (predRow F i F.blocks.length)from predsF_row hT hi _ (Nr _),sort_row (ints_pair (predRow_pair _))]at h;exact h
theorem par_mem{E:Nat→List Nat}{S:List Nat}{v:Nat}:∀{l:List Nat},ParOk E S l→v∈l→v=0∨∃p,v∈E p∧(p∈S∨p∈l)
 |[],_,h=>by cases h
 |u::l,hp,h=>by
  rw[ParOk]at hp;rcases List.mem_cons.1 h with rfl|h
  · exact hp.1.imp_right fun⟨p,h1,h2⟩=>⟨p,h1,h2.imp_right (List.mem_cons_of_mem _)⟩
  · exact(par_mem hp.2 h).imp_right fun⟨p,h1,h2⟩=>⟨p,h1,h2.imp_right (List.mem_cons_of_mem _)⟩
theorem th_pred(hT:typedP F=true)(ht:thB F i=true)(h0:i≠0):∃p,thB F p=true∧leads (F.blk p).term (i:Int)=true:=by
 have hm:=(thB_iff (thB_lt ht)).1 ht;have hf:=post_fin hT;rcases par_mem hf.par hm with h|⟨p,h1,h2⟩
 · exact absurd h h0
 · have hp:=h2.resolve_left ZS
   have hl:=hf.lt p hp;exact⟨p,(thB_iff hl).2 hp,(EN_leads hT hl).1 h1⟩
theorem no_zero(hT:typedP F=true)(hj:j<F.blocks.length):leads (F.blk j).term ((0:Nat):Int)=false:=by
 have hb:=typed_blk hT hj;unfold blkT at hb;rw[Bool.and_eq_true]at hb;have ht:=hb.2;unfold termT at ht;unfold leads;rw[decide_eq_false_iff_not];split at ht
 · rename_i h0
   rw[bne_iff_ne]at ht;rintro(h|h)
   · exact ht h.2
   · exact ZO
 · rename_i h0
   split at ht
   · rw[Bool.and_eq_true,Bool.and_eq_true,bne_iff_ne,bne_iff_ne]at ht
     rintro(h|h)
     · exact h0 h.1
     · exact h.2.elim ht.1.2 ht.2
   · rename_i h1
     rintro(h|h)
     · exact h0 h.1
     · exact h1 h.1
theorem phi_facts(hT:typedP F=true)(hi:i<F.blocks.length)(hx:x∈(F.blk i).phis):phiB F x=true∧x.args.length=x.froms.length∧x.froms.length≠0∧∀k,k<x.froms.length→0≤ith x.froms k∧ith x.froms k<F.blocks.length:=by
 have hs:=(shaped_blk (typed_shaped hT) hi).1 x hx;have hs2:=hs;unfold phiB at hs2;simp only[Bool.and_eq_true,decide_eq_true_eq]at hs2;obtain⟨k,hk,rfl⟩:=List.getElem_of_mem hx;have e:(F.blk i).phi k=(F.blk i).phis[k]:=by rw[PBlock.phi,getD_get hk]
 refine⟨hs,hs2.1.1.1.2,by have h1:=hs2.1.1.1.1;have h2:=hs2.1.1.1.2;omega,fun j hj=>?_⟩;have:=typed_from hT hi hk (j:=j) (by rw[e];exact hj)
 rwa [e]at this
theorem perm_pr(hT:typedP F=true)(hJ:joinedB F=true)(hi:thB F i=true)(hx:x∈(F.blk i).phis):(prPhi F i x).froms.Perm (ints (predRow (prF F) (numP F i) (prF F).blocks.length)):=by
 have hil:=thB_lt hi;have hp:=joined_phi hT hJ hil hx;have hf:=phi_facts hT hil hx;have hnd:x.froms.Nodup:=(hp.nodup_iff).2 ((ints_pair (predRow_pair _)).imp fun h=>ZO);refine(List.perm_ext_iff_of_nodup (prN_nodup (fun k hk=>(hf.2.2.2 k hk).1) hnd _ (Nr _)) ((ints_pair (predRow_pair _)).imp fun h=>ZO)).2 fun v=>?_
 show v∈prN F i x _↔_;rw[prN_in];unfold ints;rw[List.mem_map];constructor
 · rintro⟨j,h1,h2,rfl⟩
   have h3:=keepF_iff.1 h2;exact⟨_,predRow_mem.2 ⟨numP_top h3.2,by rw[leads_pr hT hi h3.2];exact h3.1⟩,rfl⟩
 · rintro⟨a,ha,rfl⟩
   obtain⟨h1,h2⟩:=predRow_mem.1 ha;obtain⟨j,hj,rfl⟩:=blk_hit h1;rw[leads_pr hT hi hj]at h2;have hm:(j:Int)∈x.froms:=(hp.mem_iff).2 (List.mem_map.2 ⟨j,predRow_mem.2 ⟨thB_lt hj,h2⟩,rfl⟩);obtain⟨k,hk,e⟩:=List.getElem_of_mem hm;have e2:ith x.froms k=(j:Int):=by simp[ith,List.getD,hk,e]
   refine⟨k,hk,?_,by rw[e2];simp⟩;rw[e2,keepF_iff,Int.toNat_natCast];exact⟨h2,hj⟩
theorem phiB_pr(hT:typedP F=true)(hJ:joinedB F=true)(hi:thB F i=true)(hx:x∈(F.blk i).phis):phiB (prF F) (prPhi F i x)=true:=by
 have hil:=thB_lt hi;have hp:=joined_phi hT hJ hil hx;have hf:=phi_facts hT hil hx;have hpr:=perm_pr hT hJ hi hx;have hlen:(prPhi F i x).args.length=(prPhi F i x).froms.length:=prAN_len _;have h0:i≠0:=by
  rintro rfl;have hz:x.froms=[]:=by
   have:predRow F 0 F.blocks.length=[]:=List.eq_nil_iff_forall_not_mem.2 fun a ha=>by
    have:=predRow_mem.1 ha;rw[no_zero hT this.1]at this;cases this.2
   rw[this]at hp;exact hp.eq_nil
  rw[hz]at hf;exact hf.2.2.1 rfl
 obtain⟨p,hp1,hp2⟩:=th_pred hT hi h0;have hne:(prPhi F i x).froms.length≠0:=by
  have hm:((numP F p:Nat):Int)∈(prPhi F i x).froms:=(hpr.mem_iff).2 (List.mem_map.2 ⟨_,predRow_mem.2 ⟨numP_top hp1,by rw[leads_pr hT hi hp1];exact hp2⟩,rfl⟩);have:=List.length_pos_of_mem hm;omega
 have hb:=hf.1;unfold phiB at hb ⊢;simp only[Bool.and_eq_true,decide_eq_true_eq]at hb ⊢;refine⟨⟨⟨⟨ZO,hlen⟩,hb.1.1.2⟩,?_⟩,?_⟩
 · have hv:=hb.1.2
   unfold varsB at hv ⊢;rw[List.all_eq_true]at hv ⊢;intro v hv2;obtain⟨j,hj,rfl⟩:=prA_mem hv2;exact hv _ (List.mem_of_getElem? (ith_get ZO))
 · unfold atsB
   rw[List.all_eq_true];intro v hv2;obtain⟨j,hj,hk,rfl⟩:=prN_in.1 hv2;have:=numP_top (keepF_iff.1 hk).2;exact inB_mk ⟨ZO,ZO⟩
theorem termB_pr(hT:typedP F=true)(hi:thB F i=true):termB (prF F) (prTerm F (F.blk i).term)=true:=by
 have hs:=(shaped_blk (typed_shaped hT) (thB_lt hi)).2.2;have he:=fun c hc=>thB_ends hT hi (c:=c) hc
 generalize (F.blk i).term=t at *;unfold termB at hs ⊢;unfold prTerm;have hin:∀c:Int,c∈endsOf t→inB ((numP F c.toNat:Nat):Int) (prF F).blocks.length=true:=fun c hc=>by
  have:=numP_top (he c hc).2.2;exact inB_mk ⟨ZO,ZO⟩
 by_cases h0:t.kind=0
 · have:=hin t.t0 (by unfold endsOf;rw[if_pos h0];simp)
   rw[if_pos h0]at hs;rw[if_pos h0,if_pos h0,this];simp only[Bool.and_eq_true]at hs;rw[hs.1.2,hs.2];rfl
 · by_cases h1:t.kind=1
   · have k0:=hin t.t0 (by unfold endsOf;rw[if_neg h0,if_pos h1];split<;>simp)
     have k1:=hin t.t1 (by
      unfold endsOf;rw[if_neg h0,if_pos h1];split
      · rename_i e;simp[e]
      · simp)
     rw[if_neg h0,if_pos h1,Bool.and_eq_true,Bool.and_eq_true]at hs;rw[if_neg h0,if_pos h1,if_neg h0,if_pos h1,k0,k1,Bool.and_true,Bool.and_true];exact hs.1.1
   · rw[if_neg h0,if_neg h1]at hs
     rw[if_neg h0,if_neg h1,if_neg h0,if_neg h1];exact hs
theorem any_not{α:Type}{p:α→Bool}{l:List α}(h:∀x∈l,p x=true):(!(l.any fun x=>!p x))=true:=by
 rw[List.not_any_eq_all_not,List.all_eq_true];intro x hx;rw[h x hx];rfl
theorem shaped_pr(hT:typedP F=true)(hJ:joinedB F=true):shapedP (prF F)=true:=by
 have hS:=typed_shaped hT;have hc:=shaped_count hS;unfold shapedP at hS ⊢;simp only[Bool.and_eq_true,decide_eq_true_eq]at hS ⊢;refine⟨⟨?_,?_⟩,?_⟩
 · have hn:=hS.1.1
   unfold namesB at hn ⊢;simp only[Bool.and_eq_true,decide_eq_true_eq]at hn ⊢;obtain⟨⟨⟨⟨⟨⟨⟨⟨n1,n2⟩,n3⟩,n4⟩,n5⟩,n6⟩,n7⟩,n8⟩,n9⟩:=hn;have hl:(prF F).blocks.length=numP F F.blocks.length:=prBlks_len _;have h1:=numP_le (F:=F) F.blocks.length;have h2:=numP_lt (thB_lt (thB_zero hT)) (thB_zero hT);refine⟨⟨⟨⟨⟨⟨⟨⟨n1,n2⟩,n3⟩,n4⟩,n5⟩,ZO⟩,ZO⟩,n8⟩,?_⟩;refine unlike_sub ?_ (fun x hx=>by cases hx) n9;have:=pr_names (F:=F) F.blocks.length (Nr _);rw[List.take_length]at this;exact this
 · rw[List.all_eq_true]
   intro b hb;obtain⟨j,hj,ht,rfl⟩:=prBlks_mem hb;have hs:=shaped_blk (typed_shaped hT) hj;unfold blockB;simp only[Bool.and_eq_true];refine⟨⟨any_not fun y hy=>?_,any_not fun y hy=>?_⟩,termB_pr hT ht⟩
   · obtain⟨x,hx,rfl⟩:=List.mem_map.1 hy
     exact phiB_pr hT hJ ht hx
   · exact hs.2.1 y hy
 · have:=pr_sum (F:=F) F.blocks.length (Nr _)
   rw[List.take_length]at this;exact Nat.le_trans this hS.2
theorem joined_pr(hT:typedP F=true)(hJ:joinedB F=true):typedP (prF F)=true∧joinedB (prF F)=true:=by
 have hT2:typedP (prF F)=true:=by rw[typed_pr hT];exact shaped_pr hT hJ
 refine⟨hT2,?_⟩;unfold joinedB;rw[List.all_eq_true];intro k hk;have hk2:k<(prF F).blocks.length:=by simpa using hk
 rw[List.all_eq_true];intro y hy;obtain⟨j,hj,rfl⟩:=blk_hit hk2;rw[pr_blk hj]at hy;obtain⟨x,hx,rfl⟩:=List.mem_map.1 hy;rw[joinPhi,decide_eq_true_iff,show(predsOf (prF F)).getD (numP F j) []=ints (predRow (prF F) (numP F j) (prF F).blocks.length)from predsF_row hT2 hk2 _ (Nr _),sort_row (ints_pair (predRow_pair _))];exact perm_pr hT hJ hj hx
end
end Go.Proofs.YthhjlbflpjhahaaGreatDoor
