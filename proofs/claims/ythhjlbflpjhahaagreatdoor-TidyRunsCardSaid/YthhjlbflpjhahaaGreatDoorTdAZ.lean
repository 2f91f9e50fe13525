/- Of a typed program: targets and froms lie in it; of one all of whose blocks are reached: who follows stands behind in the order. -/
import Derived.Test.YthhjlbflpjhahaaGreatDoorTdPZ
import Derived.Test.YthhjlbflpjhahaaGreatDoorWaysZ
import Derived.Test.YthhjlbflpjhahaaGreatDoorGraphZ
import Derived.Test.YthhjlbflpjhahaaGreatDoorSlcZ
import Derived.Test.YthhjlbflpjhahaaGreatDoorAboveZ
namespace Go.Proofs.YthhjlbflpjhahaaGreatDoor
open Go.RowKit
set_option maxRecDepth 100000
section
variable {F:PFunc} {a b i:Nat}
theorem typed_t0(hT:typedP F=true)(hi:i<F.blocks.length):∃k:Nat,(F.blk i).term.t0=k∧k<F.blocks.length:=by
 have ht:=(shaped_blk (typed_shaped hT) hi).2.2;generalize (F.blk i).term=t at *;have key:inB t.t0 F.blocks.length=true∨t.t0=0:=by
  unfold termB at ht;split at ht
  · simp only[Bool.and_eq_true]at ht
    exact .inl ht.1.1
  · split at ht
    · simp only[Bool.and_eq_true]at ht
      exact .inl ht.1.2
    · split at ht
      · simp only[Bool.and_eq_true,decide_eq_true_eq]at ht
        exact .inr ht.2.1
      · cases ht
 rcases key with h|h
 · obtain⟨h1,h2⟩:=inB_true h
   exact⟨t.t0.toNat,ZO,ZO⟩
 · exact⟨0,h,ZO⟩
theorem typed_rg(hT:typedP F=true):InRg F:=by
 refine⟨fun i hi _=>typed_t0 hT hi,fun i hi hk=>?_,fun i hi p hp x hx=>?_⟩
 · have ht:=(shaped_blk (typed_shaped hT) hi).2.2
   unfold termB at ht;rw[if_neg (by rw[hk];decide),if_pos hk]at ht;simp only[Bool.and_eq_true]at ht;obtain⟨h1,h2⟩:=inB_true ht.2;exact⟨(F.blk i).term.t1.toNat,ZO,ZO⟩
 · have h1:=(shaped_blk (typed_shaped hT) hi).1 p hp
   unfold phiB at h1;simp only[Bool.and_eq_true]at h1;have h2:=h1.2;unfold atsB at h2;obtain⟨h3,h4⟩:=inB_true (List.all_eq_true.1 h2 _ hx);exact⟨x.toNat,ZO,ZO⟩
theorem typed_first(hT:typedP F=true)(h:fol F a b=true):b≠0:=by
 obtain⟨ha,hb,hk,ht,-⟩:=fol_parts h;intro e;subst e;have h1:termT F (F.blk a).term=true:=by
  unfold typedP at hT;simp only[Bool.and_eq_true,List.all_eq_true]at hT;have:=hT.2 _ (mem_of_blk ha);unfold blkT at this;simp only[Bool.and_eq_true]at this;exact this.2
 unfold termT at h1;rw[if_pos hk,ht]at h1;simp at h1
def ordR(F:PFunc)(x:Nat):Nat:=pl F.blocks.length (postO F).reverse x
theorem typed_rk(hT:typedP F=true)(hA:∀b,b<F.blocks.length→b∈postO F):RkP F (ordR F):=by
 intro a b h;obtain⟨ha,hb,-⟩:=fol_parts h;have fin:=post_fin hT;rcases pl_before fin (hA b hb)with h1|⟨x,hx,he,hl⟩
 · exact absurd h1 (typed_first hT h)
 · have h1:=(EN_leads hT (fin.lt x hx)).1 he
   rw[fol_into h (fin.lt x hx),decide_eq_true_eq]at h1;rw[← h1];exact hl
end
def intoK(F:PFunc)(b k:Nat):List Nat:=(List.range k).filter fun x=>leads (F.blk x).term (b:Int)
theorem predRow_into{F:PFunc}{b:Nat}:∀i,predRow F b i=intoK F b i
 |0=>rfl
 |i+1=>by
  have ih:=predRow_into (F:=F) (b:=b) i;unfold predRow intoK;rw[List.range_succ,List.filter_append];unfold intoK at ih;rw[ih];cases h:leads (F.blk i).term (b:Int)<;>simp[h]
set_option maxHeartbeats 4000000 in
theorem tidyFol_calls{W w:World}{fv:Value}{F:PFunc}{Ar:Option Addr}{nr cr:Nat}(hF:FnV W W.heap.size fv F)(hT:typedP F=true)(hR:Rd W.heap.size Ar (predsOf F) 1 (RowC W W.heap.size))(hW:Below W.heap.size W w){a b:Nat}(ha:a<F.blocks.length)(hb:b<F.blocks.length)(hnr:b<nr) :
 Calls Tryz.prog 37 #[fv,.slice Ar nr cr,.int .i64 (a:Int),.int .i64 (b:Int)] w fun e w'=>e=.returned (.bool (fol F a b))∧Below w.heap.size w w':=by
 have HF:=Lh (show fol F a b=(decide ((F.blk a).term.kind=0)&&decide ((F.blk a).term.t0=(b:Int))&&decide (a≠b)&&decide ((intoB F b).length=1)&&decide ((F.blk b).phis.length=0)) by unfold fol;rw[decide_eq_true ha,decide_eq_true hb];rfl);have hrow:(predsOf F)[b]?=some (ints (intoB F b)):=by
  have h1:(predsOf F).length=F.blocks.length:=predsF_len _;have h2:(predsOf F).getD b []=ints (predRow F b F.blocks.length):=predsF_row hT hb _ (Nr _);rw[predRow_into]at h2;rw[List.getElem?_eq_getElem ZO,← getD_get ZO (d:=[]),h2];rfl
 obtain⟨A0,c0,A1,c1,A2,c2,rfl,l0,l1,l2,-,-,-,-,-,r2⟩:=id hF.open_;clear hF;unfold Len at *;obtain⟨bb,off,A3,c3,A4,c4,rfl,hbb,-,-,-,-,x3,x4,x5,x6,-⟩:=r2.blk hW ha;obtain⟨bb2,off2,A5,c5,A6,c6,he2,-,-,-,y1,-⟩:=r2.blk hW hb;cases he2;obtain⟨br,offr,rfl,hbr,vr,hvr,Av,cv,rfl,-⟩:=hR b _ hrow;have hWs:=hW.size;have hrc:=(hW.cell (p:=⟨br,offr+b*1,none⟩) hbr).trans hvr;have hrl:br<w.heap.size:=Nt hbr hWs;rw[Nat.mul_one]at hrc;have hil:(ints (intoB F b)).length=(intoB F b).length:=by simp[ints]
 rw[hil]at hrc;obtain⟨n,hn⟩:∃n,n=(intoB F b).length:=⟨_,rfl⟩;rw[← hn]at hrc HF;clear hn hil hvr hrow hR;obtain⟨m,hm⟩:∃m,m=(F.blk b).phis.length:=⟨_,rfl⟩;rw[← hm]at y1 HF;clear hm;obtain⟨wA,hwA⟩:∃wA,wA=((w.alloc (.cells #[.slice A0 F.vars.length c0,.slice A1 F.params.length c1,.slice (some ⟨bb,off,none⟩) F.blocks.length c2] 26)).alloc (.cells #[.int .i64 (F.blk a).term.kind,.int .i64 (F.blk a).term.var,.int .i64 (F.blk a).term.t0,.int .i64 (F.blk a).term.t1] 60)):=⟨_,rfl⟩;have hb1:Below w.heap.size w wA:=by rw[hwA];exact BL
 have hx1:BoxAt wA w.heap.size #[.slice A0 F.vars.length c0,.slice A1 F.params.length c1,.slice (some ⟨bb,off,none⟩) F.blocks.length c2] 26:=by rw[hwA];exact(BoxAt.new _ _ _).alloc _
 have hx2:BoxAt wA (w.heap.size+1) #[.int .i64 (F.blk a).term.kind,.int .i64 (F.blk a).term.var,.int .i64 (F.blk a).term.t0,.int .i64 (F.blk a).term.t1] 60:=by
  rw[hwA];have:=BoxAt.new (w.alloc (.cells #[.slice A0 F.vars.length c0,.slice A1 F.params.length c1,.slice (some ⟨bb,off,none⟩) F.blocks.length c2] 26)) #[.int .i64 (F.blk a).term.kind,.int .i64 (F.blk a).term.var,.int .i64 (F.blk a).term.t0,.int .i64 (F.blk a).term.t1] 60;simpa using this
 have HB1:=Lh hb1;have y1':=(hb1.cell (p:=⟨bb,off+b*7+1,none⟩) hbb).trans y1;have hrc':=(hb1.cell (p:=⟨br,offr+b,none⟩) hrl).trans hrc;have hbb':=Nt hbb hb1.size;have hrl':=Nt hrl hb1.size;go_enter Tryz.func37,Tryz.ntmps37
 go_upto_region 2 with fail
 rw[← hwA];have u2:=hx1.cell 2;have ul:=hx1.lt;have v0:=hx2.cell 0;have v2:=hx2.cell 2;have vl:=hx2.lt;simp at u2 v0 v2;clear r2 hx1 hx2 hb1 hwA x3 x4 x5 x6 y1 hrc;generalize (F.blk a).term=t at *
 by_cases k0:t.kind=0
 · rw[k0]at v0
   by_cases k1:t.t0=(b:Int)
   · rw[k1]at v2
     by_cases k2:a=b
     · as_aux_lemma=>
       subst k2;have HV:=Lh (show fol F a a=false by rw[HF.out];simp);clear HF k0 k1;go_wp2;go_ret;exact⟨ret_bool HV.out.symm,HB1.out⟩
     · as_aux_lemma=>
       have k2':((a:Int) !=(b:Int))=true:=by simp;omega
       by_cases k3:n=1
       · as_aux_lemma=>
         subst k3
         by_cases k4:m=0
         · as_aux_lemma=>
           subst k4;have HV:=Lh (show fol F a b=true by rw[HF.out];simp[k0,k1,k2]);clear HF k2 k0 k1;go_wp2;go_ret;exact⟨ret_bool HV.out.symm,HB1.out⟩
         · as_aux_lemma=>
           have HV:=Lh (show fol F a b=false by rw[HF.out];simp[k4]);have k4':((m:Int)==0)=false:=by rw[beq_eq_false_iff_ne];omega
           have k5':(m==0)=false:=by rw[beq_eq_false_iff_ne];exact k4
           clear HF k2 k4 k0 k1;go_wp2;go_ret;exact⟨ret_bool HV.out.symm,HB1.out⟩
       · as_aux_lemma=>
         have HV:=Lh (show fol F a b=false by rw[HF.out];simp[k3]);have k3':((n:Int)==1)=false:=by rw[beq_eq_false_iff_ne];omega
         have k5':(n==1)=false:=by rw[beq_eq_false_iff_ne];exact k3
         clear HF k2 k3 k0 k1;go_wp2;go_ret;exact⟨ret_bool HV.out.symm,HB1.out⟩
   · as_aux_lemma=>
     have HV:=Lh (show fol F a b=false by rw[HF.out];simp[k1]);have k1':(t.t0==(b:Int))=false:=by rw[beq_eq_false_iff_ne];exact k1
     clear HF k0 k1;go_wp2;go_ret;exact⟨ret_bool HV.out.symm,HB1.out⟩
 · as_aux_lemma=>
   have HV:=Lh (show fol F a b=false by rw[HF.out];simp[k0]);have k0':(t.kind==0)=false:=by rw[beq_eq_false_iff_ne];exact k0
   clear HF k0;go_wp2;go_ret;exact⟨ret_bool HV.out.symm,HB1.out⟩
inductive Ahd (F:PFunc):Nat→Nat→Prop
 |one {a b:Nat} (h:fol F a b=true):Ahd F a b
 |step {a b c:Nat} (h:Ahd F a b) (h2:fol F b c=true):Ahd F a c
theorem Ahd.trans{F:PFunc}{a b c:Nat}(h:Ahd F a b)(h2:Ahd F b c):Ahd F a c:=by
 induction h2 with
 |one h2=>exact .step h h2
 |step _ h3 ih=>exact .step ih h3
theorem Ahd.lt{F:PFunc}{r:Nat→Nat}(hr:RkP F r){a b:Nat}(h:Ahd F a b):r a<r b:=by
 induction h with
 |one h=>exact hr _ _ h
 |step _ h2 ih=>exact Nat.lt_trans ih (hr _ _ h2)
theorem Ahd.in_{F:PFunc}{a b:Nat}(h:Ahd F a b):a<F.blocks.length:=by
 induction h with
 |one h=>exact(fol_parts h).1
 |step _ _ ih=>exact ih
def foT(F:PFunc)(a:Nat):Bool:=fol F a (F.blk a).term.t0.toNat
def nxt(F:PFunc)(a:Nat):Int:=if foT F a=true then(F.blk a).term.t0 else -1
def nxL(F:PFunc)(k:Nat):List Int:=(List.range F.blocks.length).map fun a=>if a<k then nxt F a else -1
def hdI(F:PFunc)(k b:Nat):Int:=match(List.range k).find? fun a=>fol F a b with
 |some a=>(a:Int)
 |none=>-1
def hdL(F:PFunc)(k:Nat):List Int:=(List.range F.blocks.length).map fun b=>hdI F k b
section
variable {F:PFunc} {a b i k x:Nat} {L:List Int}
theorem foT_iff(h:fol F a b=true):foT F a=true∧(F.blk a).term.t0=b:=by
 have h1:=(fol_parts h).2.2.2.1;refine⟨?_,h1⟩;unfold foT;rw[h1,Int.toNat_natCast];exact h
theorem foT_no(h:foT F a=false):fol F a b=false:=by
 cases e:fol F a b
 · rfl
 · rw[(foT_iff e).1]at h
   cases h
theorem rmap_set{n i:Nat}{f g:Nat→Int}{v:Int}(hi:g i=v)(hne:∀j,j≠i→g j=f j):((List.range n).map f).set i v=(List.range n).map g:=by
 apply List.ext_getElem?;intro j;rw[List.getElem?_set]
 by_cases e:i=j
 · subst e
   by_cases hj:i<n
   · simp[hj,hi]
   · simp[hj]
 · simp only[if_neg e,List.getElem?_map]
   by_cases hj:j<n
   · simp[hj,hne j (fun h=>e h.symm)]
   · simp[hj]
theorem nxL_len:(nxL F k).length=F.blocks.length:=by simp[nxL]
theorem hdL_len:(hdL F k).length=F.blocks.length:=by simp[hdL]
theorem nxL_zero:nxL F 0=List.replicate F.blocks.length (-1):=by
 unfold nxL;refine List.ext_getElem ZS fun i h1 h2=>?_
 simp
theorem hdL_zero:hdL F 0=List.replicate F.blocks.length (-1):=by
 unfold hdL hdI;refine List.ext_getElem ZS fun i h1 h2=>?_
 simp
theorem nxL_yes(h:fol F a b=true):(nxL F a).set a b=nxL F (a+1):=
 rmap_set (by rw[if_pos (Nat.lt_succ_self _)];unfold nxt;rw[if_pos (foT_iff h).1,(foT_iff h).2]) fun j hj=>by
  by_cases h:j<a
  · rw[if_pos h,if_pos ZO]
  · rw[if_neg h,if_neg ZO]
theorem nxL_no(h:foT F a=false):nxL F a=nxL F (a+1):=List.map_congr_left fun j _=>by
 by_cases e:j=a
 · subst e
   rw[if_neg (Nat.lt_irrefl _),if_pos (Nat.lt_succ_self _)];unfold nxt;rw[if_neg (by rw[h];decide)]
 · by_cases h:j<a
   · rw[if_pos h,if_pos ZO]
   · rw[if_neg h,if_neg ZO]
theorem hdI_same(h:fol F a b=false):hdI F (a+1) b=hdI F a b:=by
 unfold hdI;rw[List.range_succ,List.find?_append];cases e:(List.range a).find? (fun a=>fol F a b) with
 |some y=>rfl
 |none=>simp[h]
theorem hdI_new(h:fol F a b=true):hdI F (a+1) b=a:=by
 unfold hdI;rw[List.range_succ,List.find?_append];cases e:(List.range a).find? (fun a=>fol F a b) with
 |some y=>
  have h1:=List.find?_some e;obtain rfl:=fol_one h h1;rfl
 |none=>simp[h]
theorem hdL_yes(h:fol F a b=true):(hdL F a).set b a=hdL F (a+1):=
 rmap_set (hdI_new h) fun j hj=>hdI_same (by
  cases e:fol F a j
  · rfl
  · exact absurd (fol_next h e) hj)
theorem hdL_no(h:foT F a=false):hdL F a=hdL F (a+1):=List.map_congr_left fun _ _=>(hdI_same (foT_no h)).symm
theorem ith_rmap{n:Nat}{f:Nat→Int}(h:i<n):ith ((List.range n).map f) i=f i:=by simp[ith,List.getD,h]
structure Hs (F:PFunc) (L:List Int) (b:Nat):Prop where
 len:L.length=F.blocks.length
 at_:∀x,x<F.blocks.length→(ith L x=-1∧isHd F x=true)∨∃h:Nat,ith L x=h∧Ahd F h x∧(x<b→isHd F h=true)
theorem Hs.start:Hs F (hdL F F.blocks.length) 0:=by
 refine⟨hdL_len,fun x hx=>?_⟩;unfold hdL;rw[ith_rmap hx];unfold hdI;cases e:(List.range F.blocks.length).find? (fun a=>fol F a x) with
 |some y=>
  have h1:=List.find?_some e;exact .inr ⟨y,rfl,.one h1,fun h=>absurd h (Nat.not_lt_zero _)⟩
 |none=>
  refine .inl ⟨rfl,hd_iff.2 fun a=>?_⟩;cases e2:fol F a x
  · rfl
  · have:=List.find?_eq_none.1 e a (List.mem_range.2 (fol_parts e2).1)
    exact absurd e2 this
theorem ith_set{j:Nat}{v:Int}(h:j<L.length):ith (L.set j v) i=if i=j then v else ith L i:=by
 unfold ith;rw[List.getD_eq_getElem?_getD,List.getD_eq_getElem?_getD,List.getElem?_set]
 by_cases e:j=i
 · subst e
   simp[h]
 · rw[if_neg e,if_neg (fun e2=>e e2.symm)]
theorem Hs.up(h:Hs F L b)(hb:b<F.blocks.length){x y:Nat}(h1:ith L b=x)(h2:ith L x=y):Hs F (L.set b y) b∧Ahd F y x:=by
 have hx:Ahd F x b:=by
  rcases h.at_ b hb with⟨e,-⟩|⟨z,e,h3,-⟩
  · exact ZO
  · obtain rfl:z=x:=by omega
    exact h3
 have hy:Ahd F y x:=by
  rcases h.at_ x hx.in_ with⟨e,-⟩|⟨z,e,h3,-⟩
  · exact ZO
  · obtain rfl:z=y:=by omega
    exact h3
 refine⟨⟨by rw[List.length_set];exact h.len,fun z hz=>?_⟩,hy⟩;rw[ith_set (by rw[h.len];exact hb)]
 by_cases e:z=b
 · subst e
   rw[if_pos rfl];exact .inr ⟨y,rfl,hy.trans hx,fun h=>absurd h (Nat.lt_irrefl _)⟩
 · rw[if_neg e]
   exact h.at_ z hz
theorem Hs.top(h:Hs F L b)(h1:ith L b=-1):Hs F L (b+1):=by
 refine⟨h.len,fun z hz=>?_⟩;rcases h.at_ z hz with h2|⟨y,e,h3,h4⟩
 · exact .inl h2
 · refine .inr ⟨y,e,h3,fun hlt=>h4 ?_⟩
   have:z≠b:=fun e2=>by rw[e2]at e;omega
   omega
theorem Hs.next(h:Hs F L b){x:Nat}(h1:ith L b=x)(h2:ith L x=-1):Hs F L (b+1):=by
 refine⟨h.len,fun z hz=>?_⟩;rcases h.at_ z hz with h5|⟨y,e,h3,h4⟩
 · exact .inl h5
 · refine .inr ⟨y,e,h3,fun hlt=>?_⟩
   by_cases e2:z=b
   · subst e2
     obtain rfl:y=x:=by omega
     rcases h.at_ y h3.in_ with⟨-,h6⟩|⟨w,h6,-⟩
     · exact h6
     · exact ZO
   · exact h4 ZO
theorem Hs.cases(h:Hs F L b)(hx:x<F.blocks.length):ith L x=-1∨∃y:Nat,ith L x=y∧Ahd F y x∧y<F.blocks.length:=by
 rcases h.at_ x hx with h|⟨y,e,h3,-⟩
 · exact .inl h.1
 · exact .inr ⟨y,e,h3,h3.in_⟩
end
def cntH(F:PFunc)(i:Nat):Nat:=((List.range i).filter (isHd F)).length
def nmL(F:PFunc)(k:Nat):List Int:=(List.range F.blocks.length).map fun i=>if i<k∧isHd F i=true then(cntH F i:Int) else 0
def numT(F:PFunc)(L:List Int)(i:Nat):Nat:=if isHd F i=true then cntH F i else cntH F (ith L i).toNat
def nmM(F:PFunc)(L:List Int)(k:Nat):List Int:=(List.range F.blocks.length).map fun i=>if isHd F i=true then(cntH F i:Int) else if i<k then(cntH F (ith L i).toNat:Int) else 0
section
variable {F:PFunc} {a b i k x h:Nat} {L:List Int}
theorem cntH_succ:cntH F (i+1)=cntH F i+if isHd F i=true then 1 else 0:=by
 unfold cntH;rw[List.range_succ,List.filter_append,List.length_append];cases h:isHd F i<;>simp[h]
theorem cntH_le:cntH F i≤i:=Nat.le_trans (List.length_filter_le _ _) ZS
theorem cntH_all:cntH F F.blocks.length=(hds F).length:=rfl
theorem filtH_at{p:Nat→Bool}:∀{n k i:Nat},((List.range n).filter p)[k]?=some i→((List.range i).filter p).length=k
 |0,k,i,h=>by simp at h
 |n+1,k,i,h=>by
  rw[List.range_succ,List.filter_append]at h
  by_cases hk:k<((List.range n).filter p).length
  · rw[List.getElem?_append_left hk]at h
    exact filtH_at h
  · rw[List.getElem?_append_right ZO]at h
    have h3:=List.mem_of_getElem? h;have h4:=(List.getElem?_eq_some_iff.1 h).1;cases e:p n
    · simp[e]at h3
    · simp[e]at h3 h4
      subst h3;omega
theorem hds_at(h:(hds F)[k]?=some i):cntH F i=k:=filtH_at h
theorem hds_of(hi:i<F.blocks.length)(h:isHd F i=true):(hds F)[cntH F i]?=some i:=by
 obtain⟨k,hk⟩:=List.getElem?_of_mem (List.mem_filter.2 ⟨List.mem_range.2 hi,h⟩:i∈hds F);rw[hds_at hk];exact hk
theorem nmL_len:(nmL F k).length=F.blocks.length:=by simp[nmL]
theorem nmM_len:(nmM F L k).length=F.blocks.length:=by simp[nmM]
theorem nmL_zero:nmL F 0=List.replicate F.blocks.length 0:=by
 unfold nmL;refine List.ext_getElem ZS fun i h1 h2=>?_
 simp
theorem nmL_yes(h:isHd F i=true):(nmL F i).set i (cntH F i:Int)=nmL F (i+1):=
 rmap_set (by rw[if_pos ⟨Nat.lt_succ_self _,h⟩]) fun j hj=>by
  by_cases h2:j<i∧isHd F j=true
  · rw[if_pos h2,if_pos ⟨ZO,h2.2⟩]
  · rw[if_neg h2,if_neg (fun h3=>h2 ⟨ZO,h3.2⟩)]
theorem nmL_no(h:isHd F i=false):nmL F i=nmL F (i+1):=List.map_congr_left fun j _=>by
 by_cases h2:j<i∧isHd F j=true
 · rw[if_pos h2,if_pos ⟨ZO,h2.2⟩]
 · rw[if_neg h2,if_neg (fun h3=>h2 ⟨by
    have:j≠i:=fun e=>by rw[e,h]at h3;cases h3.2
    omega,h3.2⟩)]
theorem nmM_zero:nmL F F.blocks.length=nmM F L 0:=List.map_congr_left fun j hj=>by
 have:=List.mem_range.1 hj;cases h:isHd F j<;>simp[this]
theorem nmM_no(h:isHd F i=true):nmM F L i=nmM F L (i+1):=List.map_congr_left fun j _=>by
 cases h2:isHd F j
 · have:j≠i:=fun e=>by rw[e,h]at h2;cases h2
   simp only[Bool.false_eq_true,if_false]
   by_cases h3:j<i
   · rw[if_pos h3,if_pos ZO]
   · rw[if_neg h3,if_neg ZO]
 · rfl
theorem nmM_yes(h:isHd F i=false):(nmM F L i).set i (cntH F (ith L i).toNat:Int)=nmM F L (i+1):=
 rmap_set (by rw[if_neg (by rw[h];decide),if_pos (Nat.lt_succ_self _)]) fun j hj=>by
  cases h2:isHd F j
  · simp only[Bool.false_eq_true,if_false]
    by_cases h3:j<i
    · rw[if_pos h3,if_pos ZO]
    · rw[if_neg h3,if_neg ZO]
  · rfl
theorem nmM_hd(hi:i<F.blocks.length)(h:isHd F i=true):ith (nmM F L k) i=(cntH F i:Int):=by
 unfold nmM;rw[ith_rmap hi,if_pos h]
theorem nmM_at(hi:i<F.blocks.length):ith (nmM F L F.blocks.length) i=(numT F L i:Int):=by
 unfold nmM numT;rw[ith_rmap hi];cases h:isHd F i
 · rw[if_neg ZD,if_pos hi,if_neg ZD]
 · rfl
theorem Ahd.up(h:Ahd F a x)(h2:fol F b x=true):a=b∨Ahd F a b:=by
 cases h with
 |one h=>exact .inl (fol_one h2 h)
 |step h h3=>
  obtain rfl:=fol_one h2 h3;exact .inr h
theorem hd_no(h:isHd F b=true):¬Ahd F a b:=fun h2=>by
 cases h2 with
 |one h3=>rw[hd_iff.1 h]at h3;cases h3
 |step _ h3=>rw[hd_iff.1 h]at h3;cases h3
theorem Ahd.uniq(h:Ahd F a x)(ha:isHd F a=true):∀{b},Ahd F b x→isHd F b=true→a=b:=by
 induction h with
 |one h=>
  intro b hb hh;rcases hb.up h with e|e
  · exact e.symm
  · exact absurd e (hd_no ha)
 |step h h2 ih=>
  intro b hb hh;rcases hb.up h2 with e|e
  · subst e
    exact absurd h (hd_no hh)
  · exact ih e hh
theorem Hs.tidyV(h:Hs F L F.blocks.length):TidyV F (numT F L):=by
 refine⟨fun k i hk=>?_,fun a b hf=>?_⟩
 · unfold numT
   rw[if_pos (hds_lt hk).2,hds_at hk]
 · obtain⟨ha,hb,-⟩:=fol_parts hf
   have h1:isHd F b=false:=by
    cases e:isHd F b
    · rfl
    · rw[hd_iff.1 e]at hf
      cases hf
   unfold numT;rw[if_neg (by rw[h1];decide)];rcases h.at_ b hb with⟨-,e⟩|⟨y,e,h3,h4⟩
   · rw[h1]at e
     cases e
   · rw[e,Int.toNat_natCast]
     cases e2:isHd F a
     · rw[if_neg ZD]
       rcases h.at_ a ha with⟨-,e3⟩|⟨z,e3,h5,h6⟩
       · rw[e2]at e3
         cases e3
       · rw[e3,Int.toNat_natCast,Ahd.uniq (h5.step hf) (h6 ha) h3 (h4 hb)]
     · rw[if_pos rfl,Ahd.uniq (.one hf) e2 h3 (h4 hb)]
inductive Pth (F:PFunc):Nat→List PInst→Nat→Prop
 |one {i:Nat}:Pth F i (F.blk i).insts i
 |more {i j b:Nat} {L:List PInst} (h:Pth F i L j) (h2:fol F j b=true):Pth F i (L++(F.blk b).insts) b
theorem Pth.ch_{j:Nat}{L:List PInst}(h:Pth F i L j):∀{M T},Ch F j ((F.blk j).insts++M) T→Ch F i (L++M) T:=by
 induction h with
 |one=>intro M T h;exact h
 |more _ h2 ih=>
  intro M T h;rw[List.append_assoc];exact ih (.more h2 h)
theorem Pth.ch{j:Nat}{L:List PInst}(h:Pth F i L j)(hn:foT F j=false):Ch F i L (F.blk j).term:=by
 have:=h.ch_ (M:=[]) (T:=(F.blk j).term) (by rw[List.append_nil];exact .last fun b=>foT_no hn)
 rwa [List.append_nil]at this
end
theorem BoxAt.row{w:World}{g:Nat}{L:List Int}(h:BoxAt w g (L.map (Value.int .i64)).toArray 3)(j:Nat)(v:Int):BoxAt (w.setCell ⟨g,j,none⟩ (.int .i64 v)) g ((L.set j v).map (Value.int .i64)).toArray 3:=by
 have:=h.set j (.int .i64 v);simpa[List.map_set]using this
theorem BoxAt.at_{w:World}{g:Nat}{L:List Int}(h:BoxAt w g (L.map (Value.int .i64)).toArray 3){j:Nat}(hj:j<L.length):w.cell? ⟨g,j,none⟩=some (.int .i64 (ith L j)):=by
 have:=h.cell j;rw[this];simp[ith,List.getD,hj]
structure ChV (w1 w':World) (gn gh tb n:Nat) (X H:List Int):Prop where
 bt:BoxAt w' tb #[.slice (some ⟨gn,0,none⟩) n n,.slice (some ⟨gh,0,none⟩) n n] 85
 bn:BoxAt w' gn (X.map (Value.int .i64)).toArray 3
 bh:BoxAt w' gh (H.map (Value.int .i64)).toArray 3
 hb:Below w1.heap.size w1 w'
theorem ChV.below{w1 w' w2:World}{gn gh tb n:Nat}{X H:List Int}(h:ChV w1 w' gn gh tb n X H)(hb:Below w'.heap.size w' w2):ChV w1 w2 gn gh tb n X H:=
 ⟨h.bt.below hb h.bt.lt,h.bn.below hb h.bn.lt,h.bh.below hb h.bh.lt,h.hb.trans (hb.mono h.hb.size)⟩
theorem ChV.setH{w1 w':World}{gn gh tb n:Nat}{X H:List Int}(h:ChV w1 w' gn gh tb n X H)(d:gn≠gh∧gn≠tb∧gh≠tb)(hg:w1.heap.size≤gh)(j:Nat)(v:Int):ChV w1 (w'.setCell ⟨gh,j,none⟩ (.int .i64 v)) gn gh tb n X (H.set j v):=
 ⟨h.bt.other d.2.2 _,h.bn.other (fun e=>d.1 e.symm) _,h.bh.row j v,h.hb.setCell hg _⟩
theorem ChV.setX{w1 w':World}{gn gh tb n:Nat}{X H:List Int}(h:ChV w1 w' gn gh tb n X H)(d:gn≠gh∧gn≠tb∧gh≠tb)(hg:w1.heap.size≤gn)(j:Nat)(v:Int):ChV w1 (w'.setCell ⟨gn,j,none⟩ (.int .i64 v)) gn gh tb n (X.set j v) H:=
 ⟨h.bt.other d.2.1 _,h.bn.row j v,h.bh.other d.1 _,h.hb.setCell hg _⟩
set_option maxHeartbeats 8000000 in
theorem chains_calls{W w:World}{fv:Value}{F:PFunc}{r:Nat→Nat}(hU:Uni W)(hF:FnV W W.heap.size fv F)(hW:Below W.heap.size W w)(hS:Small F)(hT:typedP F=true)(hr:RkP F r) :
 Calls Tryz.prog 41 #[fv] w fun e w'=>∃gn gh L,Hs F L F.blocks.length∧e=.returned (.agg #[.slice (some ⟨gn,0,none⟩) F.blocks.length F.blocks.length,.slice (some ⟨gh,0,none⟩) F.blocks.length F.blocks.length])∧BoxAt w' gn ((nxL F F.blocks.length).map (Value.int .i64)).toArray 3∧BoxAt w' gh (L.map (Value.int .i64)).toArray 3∧Below w.heap.size w w':=by
 have hWs:=hW.size;obtain⟨n1,n2⟩:=shaped_count (typed_shaped hT);have hpr:=fun(w':World) (h:Below W.heap.size W w')=>predsYes_calls hU hF h hS hT
 have HPL:=Lh (predsF_len (F:=F) F.blocks.length);have HR:=Lh hr;have HF:=Lh hF;have HT:=Lh hT;obtain⟨A0,c0,A1,c1,A2,c2,rfl,l0,l1,l2,-,-,-,-,-,r2⟩:=id hF.open_;unfold Len at *;clear hU hF hS hT hr;have HM:True:=trivial;go_enter Tryz.func41,Tryz.ntmps41
 go_upto_region 4 with(first
  |(go_at_call 36;refine(hpr _ BL).mono ?_;rintro e w1 ⟨A,c,rfl,l1',k1,r1,hb1⟩;obtain⟨hc9,hf9⟩:=bcell hb1;have hz9:=hb1.size;(try simp at hz9))
  |(go_at_call 69;clear HM;refine(repeat_calls (x:=-1) ZS (cell_of_row _ _ 0 _ _ _ (heap_alloc_new _ _)) n1 n2).mono ?_;rintro e w2 ⟨gn,rfl,ho2,hb2⟩;obtain⟨hc10,hf10⟩:=bcell hb2;have hz10:=hb2.size;(try simp at hz10))
  |(go_at_call 69;refine(repeat_calls (x:=-1) ZS (cell_of_row _ _ 0 _ _ _ (heap_alloc_new _ _)) n1 n2).mono ?_;rintro e w3 ⟨gh,rfl,ho3,hb3⟩;obtain⟨hc11,hf11⟩:=bcell hb3;have hz11:=hb3.size;(try simp at hz11)))
 have hB1:Below w.heap.size w w1:=BL;have hW1:=hW.trans (hB1.mono hWs);have s2:=hb2.size;have s3:=hb3.size;simp at s2 s3;obtain⟨wT,hwT⟩:∃wT,wT=w3.alloc (.cells #[.slice (some ⟨gn,0,none⟩) F.blocks.length F.blocks.length,.slice (some ⟨gh,0,none⟩) F.blocks.length F.blocks.length] 85):=⟨_,rfl⟩;obtain⟨tb,htb⟩:∃tb,tb=w3.heap.size:=⟨_,rfl⟩;rw[← hwT,← htb];have hgn:=(ho2.lt _ rfl);have hgh:=(ho3.lt _ rfl);simp at hgn hgh;have d:gn≠gh∧gn≠tb∧gh≠tb:=⟨ZO,ZO,ZO⟩;have bA:w1.heap.size≤gn∧w1.heap.size≤gh∧w1.heap.size≤tb:=⟨ZO,ZO,ZO⟩;have hV0:ChV w1 wT gn gh tb F.blocks.length (nxL F 0) (hdL F 0):=by
  have e2:=(own_row ho2).2;have e3:=(own_row ho3).2;refine⟨by rw[hwT,htb];exact BoxAt.new _ _ _,?_,?_,?_⟩
  · rw[nxL_zero,List.map_replicate,hwT]
    exact BoxAt.alloc (BoxAt.below (BoxAt.alloc (show BoxAt w2 gn _ 3 from e2) _) hb3 ZX) _
  · rw[hdL_zero,List.map_replicate,hwT]
    exact BoxAt.alloc (show BoxAt w3 gh _ 3 from e3) _
  · rw[hwT]
    exact(((((Br w1.heap.size w1).alloc (Nr _) _).trans (hb2.mono ZS)).alloc ZO _).trans (hb3.mono ZX)).alloc ZO _
 have hx1:BoxAt w1 w.heap.size #[.slice A0 F.vars.length c0,.slice A1 F.params.length c1,.slice A2 F.blocks.length c2] 26:=((BoxAt.new _ _ _).alloc _).below hb1 ZX;have HX1:=Lh hx1;have hl9:(predsOf F).length=F.blocks.length:=HPL.out;have HG:=Lh (fun(w':World) (hB:Below w1.heap.size w1 w') (a b:Nat) (ha:a<F.blocks.length) (hb:b<F.blocks.length)=>tidyFol_calls (W:=w1) (w:=w') (F:=F) (nr:=(predsOf F).length) (cr:=c) (HF.out.keep (Kept.of_below hW1) hW1.size) HT.out r1 hB ha hb (by rw[hl9];exact hb))
 obtain⟨x2,hx2⟩:∃u v,BoxAt w1 (w.heap.size+1) #[u,v] 85:=⟨_,_,by
  have:=(BoxAt.new (w.alloc (.cells #[.slice A0 F.vars.length c0,.slice A1 F.params.length c1,.slice A2 F.blocks.length c2] 26)) #[.slice none 0 0,.slice none 0 0] 85).below hb1 ZS
  simpa using this⟩
 have HX2:=Lh hx2;have hs1:w.heap.size+2≤w1.heap.size:=by omega
 clear hx1 hx2 hb1 hb2 hb3 ho2 ho3 hwT htb s2 s3 hgn hgh hz9 hz10 hz11 hc9 hc10 hc11 hf9 hf10 hf11 hpr r1 hl9;go_wp2_with fail
 go_loopw[23] (fun i wr=>∃a:Nat,i=.int .i64 a∧a≤F.blocks.length∧ChV w1 wr gn gh tb F.blocks.length (nxL F a) (hdL F a)) (fun i _=>F.blocks.length-(intOf i).toNat)
 case atStart=>exact⟨0,rfl,Nz _,hV0⟩
 case round=>as_aux_lemma=>
  clear hV0;obtain⟨a,rfl,ha,hI⟩:=hrel
  by_cases hlt:a<F.blocks.length
  · have hWr:Below W.heap.size W wr:=hW1.trans (hI.hb.mono hW1.size)
    obtain⟨b,hb,hbl⟩:=typed_t0 HT.out hlt;obtain⟨bb,off,A3,c3,A4,c4,rfl,hbb,-,-,-,-,-,-,x5,-,-⟩:=r2.blk hWr hlt;have hG:=HG.out wr hI.hb a b hlt hbl;have z1:=HX1.out.below hI.hb HX1.out.lt;have q0:=z1.cell 0;have q1:=z1.cell 1;have q2:=z1.cell 2;have ql:=z1.lt;simp at q0 q1 q2;rw[hb]at x5;have hfo:foT F a=fol F a b:=by unfold foT;rw[hb,Int.toNat_natCast]
    clear HG HF HT r2 HR HX2 hWr;cases hd:fol F a b
    · as_aux_lemma=>
      rw[hd]at hG hfo;have HN:=Lh (nxL_no hfo);have HH:=Lh (hdL_no hfo);clear hd hfo hb;go_wp2_with(go_at_call 37;refine hG.mono ?_;rintro e w9 ⟨rfl,hb9⟩);go_roundw
      case rel=>exact⟨a+1,ZN,ZO,by rw[← HN.out,← HH.out];exact hI.below hb9⟩
      case measure=>simp[intOf];omega
    · as_aux_lemma=>
      have HN:=Lh (nxL_yes hd);have HH:=Lh (hdL_yes hd);have hl3:(nxL F a).length=F.blocks.length:=nxL_len;have hl4:(hdL F a).length=F.blocks.length:=hdL_len;obtain⟨X,hX⟩:∃X,X=nxL F a:=⟨_,rfl⟩;obtain⟨H,hH⟩:∃H,H=hdL F a:=⟨_,rfl⟩;rw[hd]at hG;rw[← hX]at hI HN hl3;rw[← hH]at hI HH hl4;have d1:=d.1;have d2:=d.2.1;have d3:=d.2.2;have d4:tb≠gn:=fun e=>d2 e.symm
      have d5:tb≠gh:=fun e=>d3 e.symm
      have d6:gh≠gn:=fun e=>d1 e.symm
      clear hd hfo hb hX hH
      go_upto_region 9 with(go_at_call 37;refine hG.mono ?_;rintro e w9 ⟨rfl,hb9⟩)
      have hI9:=hI.below hb9;clear hI hb9 q0 q1 q2 ql x5 hG z1;have u0:=hI9.bt.cell 0;have u1:=hI9.bt.cell 1;have ul:=hI9.bt.lt;have y0:=hI9.bn.at_ (by omega:a<X.length);have y1:=hI9.bh.at_ (by omega:b<H.length);have yl:=hI9.bn.lt;have yk:=hI9.bh.lt;have f0:=hI9.bn.frozen a;have f1:=hI9.bh.frozen b;simp at u0 u1;have HI9:=Lh ((hI9.setX d bA.1 a b).setH d bA.2.1 b a);rw[HN.out,HH.out]at HI9;clear hI9;go_wp2_with fail;go_roundw
      case rel=>exact⟨a+1,ZN,ZO,HI9.out⟩
      case measure=>simp[intOf];omega
  · obtain rfl:a=F.blocks.length:=by omega
    clear HG HF HT r2 hlt ha;have HX:=Lh (nxL_len (F:=F) (k:=F.blocks.length));obtain⟨X,hX⟩:∃X,X=nxL F F.blocks.length:=⟨_,rfl⟩;rw[← hX]at hI HX;have HXE:=Lh hX;clear hX;obtain⟨H0,hH0⟩:∃H0,H0=hdL F F.blocks.length:=⟨_,rfl⟩;have HS0:=Lh (Hs.start (F:=F));rw[← hH0]at hI HS0;clear hH0;have d1:=d.1;have d2:=d.2.1;have d3:=d.2.2;have d4:tb≠gn:=fun e=>d2 e.symm
    have d5:tb≠gh:=fun e=>d3 e.symm
    have d6:gh≠gn:=fun e=>d1 e.symm
    go_wp2_with fail
    go_loopw[51] (fun i wr=>∃(b:Nat) (H:List Int),i=.int .i64 b∧b≤F.blocks.length∧Hid (Hs F H b)∧ChV w1 wr gn gh tb F.blocks.length X H) (fun i _=>F.blocks.length-(intOf i).toNat)
    case atStart=>exact⟨0,H0,rfl,Nz _,HS0,hI⟩
    case round=>as_aux_lemma=>
     clear hI HS0;obtain⟨b,H,rfl,hb,HS,hI⟩:=hrel
     by_cases hlt:b<F.blocks.length
     · have u1:=hI.bt.cell 1
       have ul:=hI.bt.lt;have y1:=hI.bh.at_ (by rw[HS.out.len];exact hlt:b<H.length);have yk:=hI.bh.lt;simp at u1;go_wp2_with fail
       go_loopw[9] (fun v wr=>∃H:List Int,v=.int .i64 (ith H b)∧Hid (Hs F H b)∧ChV w1 wr gn gh tb F.blocks.length X H) (fun v _=>r (intOf v).toNat)
       case atStart=>exact⟨H,rfl,HS,hI⟩
       case round=>as_aux_lemma=>
        clear hI HS y1 u1 ul yk;obtain⟨H,rfl,HS,hI⟩:=hrel;have u1:=hI.bt.cell 1;have ul:=hI.bt.lt;have yk:=hI.bh.lt;have hl:=HS.out.len;have y1:=hI.bh.at_ (by omega:b<H.length);simp at u1;rcases HS.out.cases hlt with e1|⟨x,e1,hxa,hx⟩
        · as_aux_lemma=>
          have HT2:=Lh (HS.out.top e1);rw[e1]at y1;rw[e1];clear e1 HS;go_wp2_with fail;go_roundw
          case rel=>exact⟨b+1,H,ZN,ZO,HT2,hI⟩
          case measure=>simp[intOf];omega
        · have y2:=hI.bh.at_ (by omega:x<H.length)
          rw[e1]at y1;have hxm:((x:Int) !=-1)=true:=by rw[bne_iff_ne];omega
          rcases HS.out.cases hx with e2|⟨y,e2,-,hy⟩
          · as_aux_lemma=>
            have HT2:=Lh (HS.out.next e1 e2);rw[e2]at y2;rw[e1];clear e1 e2 HS;go_wp2_with fail;go_roundw
            case rel=>exact⟨b+1,H,ZN,ZO,HT2,hI⟩
            case measure=>simp[intOf];omega
          · as_aux_lemma=>
            obtain⟨hs2,ha2⟩:=HS.out.up hlt e1 e2;have hrk:=ha2.lt HR.out;have hym:((y:Int) !=-1)=true:=by rw[bne_iff_ne];omega
            have hxb:x≠b:=fun e=>by
             have:=hxa.lt HR.out;rw[e]at this;omega
            have hbx:b≠x:=fun e=>hxb e.symm
            have fz:=hI.bh.frozen b;have HI2:=Lh (hI.setH d bA.2.1 b y);have HS2:=Lh hs2;have HE:=Lh (show ith (H.set b (y:Int)) b=y by rw[ith_set ZO,if_pos rfl]);rw[e2]at y2;rw[e1];clear e1 e2 HS hs2 ha2 hI hxa;go_wp2_with fail;obtain⟨S0,hS0⟩:∃S0:World→Prop,S0=fun w'=>w'.cell? ⟨tb,1,none⟩=some (.slice (some ⟨gh,0,none⟩) F.blocks.length F.blocks.length)∧w'.cell? ⟨gh,x,none⟩=some (.int .i64 (y:Int))∧tb<w'.heap.size∧gh<w'.heap.size:=⟨_,rfl⟩
            have HS0:=Lh hS0;clear hS0;have k0:=fun xw=>(WS.at HS0 xw).1
            have k1:=fun xw=>(WS.at HS0 xw).2.1
            have k2:=fun xw=>(WS.at HS0 xw).2.2.1
            have k3:=fun xw=>(WS.at HS0 xw).2.2.2
            refine wp_region_sched (S:=S0) [0,1,2,3,4,5,6,7,8,9] ZK ZK (fun _ _ _ _ _ h=>h) ?hS (fun hSc=>?_)
            case hS=>
             rw[HS0.out];exact⟨ZI,ZI,ZJ,ZJ⟩
            have hne0:Nonempty (WS S0):=⟨⟨_,hSc⟩⟩;simp only[List.map_cons,List.map_nil,Ld,Le]
            repeat
             first
             |((with_reducible refine wpSch_lk ?_ ?_);exact rfl;go_big_quiet_step (fail);(try with_reducible refine wpQuiet_nil ?_);(try dsimp only))
             |((with_reducible refine wpSch_act ?_ ?_ (fun K hK=>?_))
               exact rfl;exact rfl;go_simp;(try go_wp2_with(fail));refine hK.out _ _ ?hS (fun hSc=>?_)
               case hS=>
                first
                |exact hSc
                |(rw[HS0.out]at hSc ⊢;obtain⟨p0,p1,p2,p3⟩:=hSc;exact⟨ZC,ZC,ZT,ZT⟩)
               clear hK K)
            refine wpSch_nil ?_;rw[HS0.out]at hSc;obtain⟨p0,p1,p2,p3⟩:=hSc;clear hne0 HS0 k0 k1 k2 k3;have hI3:ChV w1 (wr.setCell ⟨gh,b,none⟩ (.int .i64 (y:Int))).drew gn gh tb F.blocks.length X (H.set b y):=HI2.out.below ((Br _ _).drew);obtain⟨wz,hwz⟩:∃wz,wz=(wr.setCell ⟨gh,b,none⟩ (.int .i64 (y:Int))).drew:=⟨_,rfl⟩;rw[← hwz]at hI3 ⊢;clear p0 p1 p2 p3 hwz u1 ul yk y1 y2 fz HI2;have u1:=hI3.bt.cell 1;have ul:=hI3.bt.lt;have yk:=hI3.bh.lt;have y1:=hI3.bh.at_ (by rw[List.length_set];omega:b<(H.set b (y:Int)).length);simp at u1;rw[HE.out]at y1;go_wp2_with fail;go_roundw
            case rel=>exact⟨H.set b y,by rw[HE.out],HS2,hI3⟩
            case measure=>simp[intOf];omega
     · obtain rfl:b=F.blocks.length:=by omega
       obtain⟨y,hz⟩:=HX2.out;have z2:=hz.below hI.hb hz.lt;have u0:=hI.bt.cell 0;have u1:=hI.bt.cell 1;have ul:=hI.bt.lt;have v0:=z2.cell 0;have v1:=z2.cell 1;have vl:=z2.lt;have vf0:=z2.frozen 0;have vf1:=z2.frozen 1;simp at u0 u1 v0 v1;go_wp2_with fail;obtain⟨wz,hwz⟩:∃wz,wz=(wr.setCell ⟨w.heap.size+1,0,none⟩ (.slice (some ⟨gn,0,none⟩) F.blocks.length F.blocks.length)).setCell ⟨w.heap.size+1,1,none⟩ (.slice (some ⟨gh,0,none⟩) F.blocks.length F.blocks.length):=⟨_,rfl⟩;rw[← hwz];have z3:BoxAt wz (w.heap.size+1) #[.slice (some ⟨gn,0,none⟩) F.blocks.length F.blocks.length,.slice (some ⟨gh,0,none⟩) F.blocks.length F.blocks.length] 85:=by
        rw[hwz];simpa using(z2.set 0 (.slice (some ⟨gn,0,none⟩) F.blocks.length F.blocks.length)).set 1 (.slice (some ⟨gh,0,none⟩) F.blocks.length F.blocks.length)
       have hn9:BoxAt wz gn (X.map (Value.int .i64)).toArray 3:=by rw[hwz];exact(hI.bn.other (show w.heap.size+1≠gn from ZO) _).other (show w.heap.size+1≠gn from ZO) _
       have hh9:BoxAt wz gh (H.map (Value.int .i64)).toArray 3:=by rw[hwz];exact(hI.bh.other (show w.heap.size+1≠gh from ZO) _).other (show w.heap.size+1≠gh from ZO) _
       have hB9:Below w.heap.size w wz:=by rw[hwz];exact((hB1.trans (hI.hb.mono hB1.size)).setCell (Nat.le_succ _) _).setCell (Nat.le_succ _) _
       rw[HXE.out]at hn9;clear hwz;have z0:=z3.cell 0;have z1:=z3.cell 1;simp at z0 z1;exact bodyPost_ret (v:=.agg #[.slice (some ⟨gn,0,none⟩) F.blocks.length F.blocks.length,.slice (some ⟨gh,0,none⟩) F.blocks.length F.blocks.length]) (by simp[results,Tryz.results41,go_sem,z0,z1]) rfl ⟨gn,gh,H,HS.out,rfl,hn9,hh9,hB9⟩
theorem tidyFollowsYes_calls{W w:World}{fv:Value}{F:PFunc}(hU:Uni W)(hF:FnV W W.heap.size fv F)(hW:Below W.heap.size W w)(hS:Small F)(hT:typedP F=true)(a b:Int) :
 Calls Tryz.prog 13 #[fv,.int .i64 a,.int .i64 b] w fun e w'=>e=.returned (.bool (decide (0≤a∧a<F.blocks.length∧0≤b∧b<F.blocks.length)&&fol F a.toNat b.toNat))∧Below w.heap.size w w':=by
 have hp:=fun(w':World) (h:Below W.heap.size W w')=>predsYes_calls hU hF h hS hT
 have HL:=Lh (predsF_len (F:=F) F.blocks.length);have HF:=Lh hF;have HT:=Lh hT;have hWs:=hW.size;obtain⟨A0,c0,A1,c1,A2,c2,rfl,l0,l1,l2,-⟩:=id hF.open_;unfold Len at *;have HW:=Lh hW;clear hT hF hU hS
 by_cases ha:0≤a∧a<F.blocks.length
 · by_cases hb:0≤b∧b<F.blocks.length
   · as_aux_lemma=>
     obtain⟨x,rfl⟩:∃x:Nat,a=x:=⟨a.toNat,ZO⟩;obtain⟨y,rfl⟩:∃y:Nat,b=y:=⟨b.toNat,ZO⟩;have e1:decide (0≤(x:Int)∧(x:Int)<F.blocks.length∧0≤(y:Int)∧(y:Int)<F.blocks.length)=true:=decide_eq_true ⟨ZO,ha.2,ZO,hb.2⟩;rw[e1,Bool.true_and,Int.toNat_natCast,Int.toNat_natCast];obtain⟨m,hm⟩:∃m:Nat,m=F.blocks.length:=⟨_,rfl⟩;have ha9:x<m:=by omega
     have hb9:y<m:=by omega
     have HG:=Lh (fun(w1:World) (A:Option Addr) (c:Nat) (hB:Below w.heap.size w w1) (hr:Rd w1.heap.size A (predsOf F) 1 (RowC w1 w1.heap.size))=>tidyFol_calls (W:=w1) (w:=w1) (F:=F) (nr:=(predsOf F).length) (cr:=c) (HF.out.keep (Kept.of_below (HW.out.trans (hB.mono hWs))) (HW.out.trans (hB.mono hWs)).size) HT.out hr (Br _ _) (by omega:x<F.blocks.length) (by omega:y<F.blocks.length) (by rw[show(predsOf F).length=F.blocks.length from HL.out];omega));have hl9:(predsOf F).length=m:=by rw[hm];exact HL.out
     rw[hl9]at HG;have hx1:decide ((x:Int)<0)=false:=decide_eq_false ZO;have hy1:decide ((y:Int)<0)=false:=decide_eq_false ZO;have hx2:decide (m≤x)=false:=decide_eq_false ZO;have hy2:decide (m≤y)=false:=decide_eq_false ZO;clear hm ha hb e1 l2;go_enter Tryz.func13,Tryz.ntmps13;go_wp2_with(first|(go_at_call 36;refine(hp _ BL).mono ?_;rintro e w1 ⟨A,c,rfl,l1',k1,r1,hb1⟩;rw[hl9]at *;obtain⟨hc9,hf9⟩:=bcell hb1;have hz9:=hb1.size;(try simp at hz9))|(go_at_call 37;refine(HG.out _ _ _ BL r1).mono ?_;rintro e w2 ⟨rfl,hb2⟩));go_ret;exact⟨rfl,BL⟩
   · have e1:decide (0≤a∧a<F.blocks.length∧0≤b∧b<F.blocks.length)=false:=decide_eq_false ZO
     rw[e1,Bool.false_and];obtain⟨m,hm⟩:∃m:Nat,m=F.blocks.length:=⟨_,rfl⟩;have hl9:(predsOf F).length=m:=by rw[hm];exact HL.out
     have h1:decide (a<0)=false:=decide_eq_false ZO;have h2:decide (a≥(m:Int))=false:=decide_eq_false ZO
     by_cases hb1:b<0
     · as_aux_lemma=>
       have h3:decide (b<0)=true:=decide_eq_true hb1;clear hm ha hb e1 l2 hb1;go_enter Tryz.func13,Tryz.ntmps13;go_wp2_with(go_at_call 36;refine(hp _ BL).mono ?_;rintro e w1 ⟨A,c,rfl,l1',k1,r1,hb1⟩;rw[hl9]at *;obtain⟨hc9,hf9⟩:=bcell hb1;have hz9:=hb1.size;(try simp at hz9));go_ret;exact⟨rfl,BL⟩
     · as_aux_lemma=>
       have h3:decide (b<0)=false:=decide_eq_false hb1;have h4:decide (b≥(m:Int))=true:=decide_eq_true ZO;clear hm ha hb e1 l2 hb1;go_enter Tryz.func13,Tryz.ntmps13;go_wp2_with(go_at_call 36;refine(hp _ BL).mono ?_;rintro e w1 ⟨A,c,rfl,l1',k1,r1,hb1⟩;rw[hl9]at *;obtain⟨hc9,hf9⟩:=bcell hb1;have hz9:=hb1.size;(try simp at hz9));go_ret;exact⟨rfl,BL⟩
 · have e1:decide (0≤a∧a<F.blocks.length∧0≤b∧b<F.blocks.length)=false:=decide_eq_false ZO
   rw[e1,Bool.false_and];obtain⟨m,hm⟩:∃m:Nat,m=F.blocks.length:=⟨_,rfl⟩;have hl9:(predsOf F).length=m:=by rw[hm];exact HL.out
   by_cases ha1:a<0
   · as_aux_lemma=>
     have h3:decide (a<0)=true:=decide_eq_true ha1;clear hm ha e1 l2 ha1;go_enter Tryz.func13,Tryz.ntmps13;go_wp2_with(go_at_call 36;refine(hp _ BL).mono ?_;rintro e w1 ⟨A,c,rfl,l1',k1,r1,hb1⟩;rw[hl9]at *;obtain⟨hc9,hf9⟩:=bcell hb1;have hz9:=hb1.size;(try simp at hz9));go_ret;exact⟨rfl,BL⟩
   · as_aux_lemma=>
     have h3:decide (a<0)=false:=decide_eq_false ha1;have h4:decide (a≥(m:Int))=true:=decide_eq_true ZO;clear hm ha e1 l2 ha1;go_enter Tryz.func13,Tryz.ntmps13;go_wp2_with(go_at_call 36;refine(hp _ BL).mono ?_;rintro e w1 ⟨A,c,rfl,l1',k1,r1,hb1⟩;rw[hl9]at *;obtain⟨hc9,hf9⟩:=bcell hb1;have hz9:=hb1.size;(try simp at hz9));go_ret;exact⟨rfl,BL⟩
end Go.Proofs.YthhjlbflpjhahaaGreatDoor
