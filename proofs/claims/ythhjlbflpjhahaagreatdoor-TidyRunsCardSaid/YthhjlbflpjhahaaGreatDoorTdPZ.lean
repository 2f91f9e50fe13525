/- The plain law of tidy: blocks that follow one another, put together one by one or all at once: the same program. -/
import Derived.Test.YthhjlbflpjhahaaGreatDoorLeafQZ
namespace Go.Proofs.YthhjlbflpjhahaaGreatDoor
open Go.RowKit
set_option maxRecDepth 100000
def intoB(F:PFunc)(b:Nat):List Nat:=(List.range F.blocks.length).filter fun x=>leads (F.blk x).term (b:Int)
def fol(F:PFunc)(a b:Nat):Bool:=
 decide (a<F.blocks.length)&&decide (b<F.blocks.length)&&decide ((F.blk a).term.kind=0)&&decide ((F.blk a).term.t0=(b:Int))&&decide (a≠b)&&decide ((intoB F b).length=1)&&decide ((F.blk b).phis.length=0)
def mphi(f:Int→Int)(p:PPhi):PPhi:={ p with froms:=p.froms.map f }
def mterm(f:Int→Int)(t:PTerm):PTerm:=if t.kind=0 then { t with t0:=f t.t0 } else if t.kind=1 then { t with t0:=f t.t0,t1:=f t.t1 } else t
def sg(b x:Nat):Nat:=if b<x then x-1 else x
def up(b j:Nat):Nat:=if j<b then j else j+1
def tnI(a b:Nat)(x:Int):Int:=if(b:Int)<(if x=b then(a:Int) else x) then(if x=b then(a:Int) else x)-1 else(if x=b then(a:Int) else x)
def putB(F:PFunc)(a b i:Nat):PBlock:=
 ⟨(F.blk i).name,(F.blk i).phis.map (mphi (tnI a b)),if i=a then(F.blk a).insts++(F.blk b).insts else(F.blk i).insts,mterm (tnI a b) (if i=a then(F.blk b).term else(F.blk i).term)⟩
def putF(F:PFunc)(a b:Nat):PFunc:={ F with blocks:=((List.range F.blocks.length).filter fun i=>decide (i≠b)).map (putB F a b) }
structure InRg (F:PFunc):Prop where
 t0:∀i,i<F.blocks.length→(F.blk i).term.kind=0∨(F.blk i).term.kind=1→∃k:Nat,(F.blk i).term.t0=k∧k<F.blocks.length
 t1:∀i,i<F.blocks.length→(F.blk i).term.kind=1→∃k:Nat,(F.blk i).term.t1=k∧k<F.blocks.length
 fr:∀i,i<F.blocks.length→∀p∈(F.blk i).phis,∀x∈p.froms,∃k:Nat,x=k∧k<F.blocks.length
def RkP(F:PFunc)(r:Nat→Nat):Prop:=∀a b,fol F a b=true→r a<r b
section
variable {F:PFunc} {a b i j x y n:Nat}
theorem fol_parts(h:fol F a b=true):a<F.blocks.length∧b<F.blocks.length∧(F.blk a).term.kind=0∧(F.blk a).term.t0=b∧a≠b∧intoB F b=[a]∧(F.blk b).phis=[]:=by
 unfold fol at h;simp only[Bool.and_eq_true,decide_eq_true_eq]at h;obtain⟨⟨⟨⟨⟨⟨h1,h2⟩,h3⟩,h4⟩,h5⟩,h6⟩,h7⟩:=h;refine⟨h1,h2,h3,h4,h5,?_,List.eq_nil_of_length_eq_zero h7⟩;have hm:a∈intoB F b:=List.mem_filter.2 ⟨List.mem_range.2 h1,by unfold leads;simp[h3,h4]⟩
 match hl:intoB F b,h6 with
 |[z],_=>
  rw[hl,List.mem_singleton]at hm;rw[hm]
theorem fol_into(h:fol F a b=true)(hx:x<F.blocks.length):leads (F.blk x).term (b:Int)=decide (x=a):=by
 have h1:=(fol_parts h).2.2.2.2.2.1;rw[Bool.eq_iff_iff,decide_eq_true_iff];have:x∈intoB F b↔leads (F.blk x).term (b:Int)=true:=by
  unfold intoB;rw[List.mem_filter,List.mem_range];exact⟨fun h=>h.2,fun h=>⟨hx,h⟩⟩
 rw[← this,h1,List.mem_singleton]
theorem fol_one(h:fol F a b=true)(h2:fol F x b=true):x=a:=by
 have h1:=(fol_parts h).2.2.2.2.2.1;rw[(fol_parts h2).2.2.2.2.2.1]at h1;simpa using h1
theorem fol_next(h:fol F a b=true)(h2:fol F a x=true):x=b:=by
 have h1:=(fol_parts h).2.2.2.1;rw[(fol_parts h2).2.2.2.1]at h1;omega
theorem up_ne:up b j≠b:=by unfold up;split<;>omega
theorem up_inj:up b i=up b j↔i=j:=by unfold up;split<;>split<;>omega
theorem up_lt(hb:b<n)(hj:j<n-1):up b j<n:=by unfold up;split<;>omega
theorem up_sg(h:x≠b):up b (sg b x)=x:=by unfold up sg;split<;>split<;>omega
theorem sg_lt(h:x≠b)(hb:b<n)(hx:x<n):sg b x<n-1:=by unfold sg;split<;>omega
theorem range_cut(hb:b<n):(List.range n).filter (fun i=>decide (i≠b))=(List.range (n-1)).map (up b):=by
 obtain⟨m,rfl⟩:∃m,n=b+(m+1):=⟨n-b-1,ZO⟩;have h1:(List.range b).filter (fun i=>decide (i≠b))=List.range b:=List.filter_eq_self.2 fun x hx=>by
  have:=List.mem_range.1 hx;simp;omega
 have h2:(List.range b).map (up b)=List.range b:=by
  conv=>rhs;rw[← List.map_id (List.range b)]
  refine List.map_congr_left fun x hx=>?_
  have:=List.mem_range.1 hx;unfold up;rw[if_pos this];rfl
 have e1:List.range (b+(m+1))=List.range b++(List.range (m+1)).map (b+·):=List.range_add;have e2:List.range (b+m)=List.range b++(List.range m).map (b+·):=List.range_add;rw[show b+(m+1)-1=b+m from ZO,e1,e2,List.filter_append,List.map_append,h1,h2,List.range_succ_eq_map];congr 1;simp only[List.map_cons,List.map_map,Nat.add_zero];rw[List.filter_cons_of_neg ZS]
 rw[List.filter_eq_self.2 (fun x hx=>by
  obtain⟨y,-,rfl⟩:=List.mem_map.1 hx
  simp)]
 refine List.map_congr_left fun x _=>?_
 simp only[Function.comp,up];rw[if_neg ZO];omega
theorem put_len(hb:b<F.blocks.length):(putF F a b).blocks.length=F.blocks.length-1:=by
 unfold putF;rw[range_cut hb];simp
theorem put_blk(hb:b<F.blocks.length)(hj:j<F.blocks.length-1):(putF F a b).blk j=putB F a b (up b j):=by
 unfold putF PFunc.blk;simp only;rw[range_cut hb];simp[List.getD_eq_getElem?_getD,hj]
theorem tn_iff(hx:x≠b):tnI a b (x:Int)=(j:Int)↔x=up b j:=by
 have:¬(x:Int)=b:=by omega
 unfold tnI up;simp only[if_neg this];split<;>split<;>omega
theorem tn_sg(hx:x≠b):tnI a b (x:Int)=(sg b x:Nat):=by
 have:¬(x:Int)=b:=by omega
 unfold tnI sg;simp only[if_neg this];split<;>split<;>omega
theorem tn_b:tnI a b (b:Int)=(sg b a:Nat):=by
 unfold tnI sg;simp only[if_true];split<;>split<;>omega
theorem mterm_kind(f:Int→Int)(t:PTerm):(mterm f t).kind=t.kind∧(mterm f t).var=t.var:=by
 unfold mterm;split
 · exact⟨rfl,rfl⟩
 · split<;>exact⟨rfl,rfl⟩
def endAt(F:PFunc)(a b i:Nat):PTerm:=if i=a then(F.blk b).term else(F.blk i).term
theorem end_ne(h:fol F a b=true)(hi:i<F.blocks.length):leads (endAt F a b i) (b:Int)=false:=by
 obtain⟨ha,hb,-,-,hab,-⟩:=fol_parts h;unfold endAt;split
 · rw[fol_into h hb]
   simp;omega
 · rename_i e
   rw[fol_into h hi];simp[e]
theorem end_rg(hr:InRg F)(hb:b<F.blocks.length)(hi:i<F.blocks.length):((endAt F a b i).kind=0∨(endAt F a b i).kind=1→∃k:Nat,(endAt F a b i).t0=k∧k<F.blocks.length)∧((endAt F a b i).kind=1→∃k:Nat,(endAt F a b i).t1=k∧k<F.blocks.length):=by
 unfold endAt;split
 · exact⟨hr.t0 b hb,hr.t1 b hb⟩
 · exact⟨hr.t0 i hi,hr.t1 i hi⟩
theorem put_leads(h:fol F a b=true)(hr:InRg F)(hj:j<F.blocks.length-1)(k:Nat):leads ((putF F a b).blk j).term (k:Int)=leads (endAt F a b (up b j)) ((up b k:Nat):Int):=by
 obtain⟨ha,hb,-,-,hab,-⟩:=fol_parts h;have hi:=up_lt hb hj;have hne:=end_ne h hi;obtain⟨r0,r1⟩:=end_rg hr hb hi (a:=a) (b:=b);rw[put_blk hb hj];show leads (mterm (tnI a b) (endAt F a b (up b j))) (k:Int)=_;generalize endAt F a b (up b j)=t at *;unfold leads at hne ⊢;rw[decide_eq_false_iff_not]at hne;rw[decide_eq_decide,(mterm_kind _ _).1]
 by_cases h0:t.kind=0
 · obtain⟨x,hx,-⟩:=r0 (.inl h0)
   have hxb:x≠b:=fun e=>hne (.inl ⟨h0,by rw[hx,e]⟩)
   have e0:(mterm (tnI a b) t).t0=tnI a b x:=by unfold mterm;rw[if_pos h0,← hx]
   rw[e0,hx,tn_iff hxb];simp[h0];omega
 · by_cases h1:t.kind=1
   · obtain⟨x,hx,-⟩:=r0 (.inr h1)
     obtain⟨y,hy,-⟩:=r1 h1;have hxb:x≠b:=fun e=>hne (.inr ⟨h1,.inl (by rw[hx,e])⟩)
     have hyb:y≠b:=fun e=>hne (.inr ⟨h1,.inr (by rw[hy,e])⟩)
     have e0:(mterm (tnI a b) t).t0=tnI a b x:=by unfold mterm;rw[if_neg h0,if_pos h1,← hx]
     have e1:(mterm (tnI a b) t).t1=tnI a b y:=by unfold mterm;rw[if_neg h0,if_pos h1,← hy]
     rw[e0,e1,hx,hy,tn_iff hxb,tn_iff hyb];simp[h1];omega
   · simp[h0,h1]
theorem count_swap{p q:Nat→Bool}(hq:∀x,x≠a→q x=p x)(hpa:p a=false):∀{l:List Nat},l.Nodup→(l.filter q).length=(l.filter p).length+if a∈l∧q a=true then 1 else 0
 |[],_=>by simp
 |x::l,hn=>by
  obtain⟨h1,h2⟩:=List.nodup_cons.1 hn;have ih:=count_swap hq hpa h2
  by_cases e:x=a
  · subst e
    rw[List.filter_cons,List.filter_cons,hpa];have h3:(l.filter q).length=(l.filter p).length:=by rw[ih,if_neg (fun h=>h1 h.1)];rfl
    cases q x
    · simp[h3]
    · simp[h3]
  · have h4:(a∈x::l∧q a=true)↔(a∈l∧q a=true):=by
     rw[List.mem_cons];exact⟨fun h=>⟨h.1.resolve_left fun e2=>e e2.symm,h.2⟩,fun h=>⟨.inr h.1,h.2⟩⟩
    have h5:(if a∈x::l∧q a=true then 1 else 0)=if a∈l∧q a=true then 1 else 0:=by
     by_cases h6:a∈l∧q a=true
     · rw[if_pos h6,if_pos (h4.2 h6)]
     · rw[if_neg h6,if_neg (fun h=>h6 (h4.1 h))]
    rw[h5,List.filter_cons,List.filter_cons,hq x e];cases p x<;>simp[ih]<;>omega
theorem filt_ne{p:Nat→Bool}:∀{l:List Nat},l.Nodup→b∈l→(l.filter p).length=((l.filter fun i=>decide (i≠b)).filter p).length+if p b=true then 1 else 0
 |[],_,h=>by simp at h
 |x::l,hn,h=>by
  obtain⟨h1,h2⟩:=List.nodup_cons.1 hn
  by_cases e:x=b
  · subst e
    have h3:l.filter (fun i=>decide (i≠x))=l:=List.filter_eq_self.2 fun y hy=>by
     simp;intro e;exact h1 (e▸hy)
    rw[List.filter_cons_of_neg (p:=fun i=>decide (i≠x)) ZS,h3,List.filter_cons];cases p x<;>simp
  · have ih:=filt_ne (p:=p) h2 ((List.mem_cons.1 h).resolve_left fun e2=>e e2.symm)
    rw[List.filter_cons_of_pos (p:=fun i=>decide (i≠b)) (by simpa using e),List.filter_cons,List.filter_cons];cases p x<;>simp[ih];omega
theorem put_into(h:fol F a b=true)(hr:InRg F):(intoB (putF F a b) i).length=(intoB F (up b i)).length:=by
 obtain⟨ha,hb,hka,ht,hab,-⟩:=fol_parts h;have hnd:(List.range F.blocks.length).Nodup:=List.nodup_range;have e1:(intoB (putF F a b) i).length=(((List.range F.blocks.length).filter fun i=>decide (i≠b)).filter fun x=>leads (endAt F a b x) ((up b i:Nat):Int)).length:=by
  unfold intoB;rw[put_len hb,range_cut hb,List.filter_map,List.length_map];refine congrArg List.length (List.filter_congr fun j hj=>?_);exact put_leads h hr (List.mem_range.1 hj) i
 have hpa:leads (F.blk a).term ((up b i:Nat):Int)=false:=by
  unfold leads;have:(b:Int)≠((up b i:Nat):Int):=fun e=>up_ne (Int.ofNat.inj e.symm)
  simp[hka,ht,this]
 rw[e1,count_swap (a:=a) (p:=fun x=>leads (F.blk x).term ((up b i:Nat):Int)) (fun x hx=>by unfold endAt;rw[if_neg hx]) hpa (hnd.filter _)];unfold intoB;rw[filt_ne (b:=b) hnd (List.mem_range.2 hb)];congr 1;have hm:a∈(List.range F.blocks.length).filter (fun i=>decide (i≠b)):=List.mem_filter.2 ⟨List.mem_range.2 ha,by simpa using hab⟩;have he:endAt F a b a=(F.blk b).term:=if_pos rfl
 by_cases hq:leads (F.blk b).term ((up b i:Nat):Int)=true
 · rw[if_pos ⟨hm,by rw[he];exact hq⟩,if_pos hq]
 · rw[if_neg (fun h=>hq (by rw[← he];exact h.2)),if_neg hq]
theorem put_fol(h:fol F a b=true)(hr:InRg F){r:Nat→Nat}(hk:RkP F r)(hi:i<F.blocks.length-1)(hj:j<F.blocks.length-1):fol (putF F a b) i j=fol F (if up b i=a then b else up b i) (up b j):=by
 obtain⟨ha,hb,hka,ht,hab,-⟩:=fol_parts h;have hui:=up_lt hb hi;have huj:=up_lt hb hj;have hne:=end_ne h hui;obtain⟨r0,-⟩:=end_rg hr hb hui (a:=a) (b:=b);have hT:endAt F a b (up b i)=(F.blk (if up b i=a then b else up b i)).term:=by unfold endAt;split<;>rfl
 have hx:(if up b i=a then b else up b i)<F.blocks.length:=by split<;>assumption
 unfold fol;rw[put_len hb,put_into (i:=j) h hr,put_blk hb hi,put_blk hb hj];have hph:(putB F a b (up b j)).phis.length=(F.blk (up b j)).phis.length:=by simp[putB]
 have hkd:(putB F a b (up b i)).term.kind=(F.blk (if up b i=a then b else up b i)).term.kind:=by
  rw[← hT];exact(mterm_kind _ _).1
 rw[hph,hkd,decide_eq_true hi,decide_eq_true hj,decide_eq_true hx,decide_eq_true huj]
 by_cases h0:(F.blk (if up b i=a then b else up b i)).term.kind=0
 · rw[hT]at r0 hne
   obtain⟨x,hx2,-⟩:=r0 (.inl h0);have hxb:x≠b:=fun e=>by
    unfold leads at hne;rw[decide_eq_false_iff_not]at hne;exact hne (.inl ⟨h0,by rw[hx2,e]⟩)
   have e0:(putB F a b (up b i)).term.t0=tnI a b x:=by
    show(mterm (tnI a b) (endAt F a b (up b i))).t0=_;rw[hT];unfold mterm;rw[if_pos h0,← hx2]
   rw[e0,hx2];have e1:decide (tnI a b (x:Int)=(j:Int))=decide ((x:Int)=((up b j:Nat):Int)):=by
    rw[decide_eq_decide,tn_iff hxb];omega
   rw[e1]
   by_cases e2:(x:Int)=((up b j:Nat):Int)
   · by_cases e3:(intoB F (up b j)).length=1
     · by_cases e4:(F.blk (up b j)).phis.length=0
       · have e5:decide (i≠j)=decide ((if up b i=a then b else up b i)≠up b j):=by
          by_cases e6:up b i=a
          · rw[if_pos e6]
            have hf:fol F b (up b j)=true:=by
             unfold fol;rw[if_pos e6]at h0 hx2;simp only[Bool.and_eq_true,decide_eq_true_eq];exact⟨⟨⟨⟨⟨⟨hb,huj⟩,h0⟩,by rw[hx2,e2]⟩,up_ne.symm⟩,e3⟩,e4⟩
            have h1:=hk _ _ h;have h2:=hk _ _ hf;have h3:i≠j:=fun e=>by
             rw[← e,e6]at h2;omega
            rw[decide_eq_true h3,decide_eq_true up_ne.symm]
          · rw[if_neg e6]
            have:up b i≠up b j↔i≠j:=by rw[Ne,up_inj]
            rw[decide_eq_decide];exact this.symm
         rw[e5]
       · rw[decide_eq_false e4,Bool.and_false,Bool.and_false]
     · rw[decide_eq_false e3,Bool.and_false,Bool.and_false]
   · rw[decide_eq_false e2,Bool.and_false]
     simp
 · rw[decide_eq_false h0]
   simp
theorem put_rk(h:fol F a b=true)(hr:InRg F){r:Nat→Nat}(hk:RkP F r):RkP (putF F a b) (fun j=>r (up b j)):=by
 intro i j hf;obtain⟨-,hb,-⟩:=fol_parts h;obtain⟨hi,hj,-⟩:=fol_parts hf;rw[put_len hb]at hi hj;rw[put_fol h hr hk hi hj]at hf;have h1:=hk _ _ hf
 by_cases e:up b i=a
 · rw[if_pos e]at h1
   have:=hk _ _ h;show r (up b i)<r (up b j);rw[e];omega
 · rw[if_neg e]at h1
   exact h1
end
inductive Ch (F:PFunc):Nat→List PInst→PTerm→Prop
 |last {i:Nat} (h:∀b,fol F i b=false):Ch F i (F.blk i).insts (F.blk i).term
 |more {i b:Nat} {L:List PInst} {T:PTerm} (h:fol F i b=true) (hc:Ch F b L T):Ch F i ((F.blk i).insts++L) T
def isHd(F:PFunc)(i:Nat):Bool:=(List.range F.blocks.length).all fun a=>!fol F a i
def hds(F:PFunc):List Nat:=(List.range F.blocks.length).filter (isHd F)
def vI(v:Nat→Nat)(x:Int):Int:=(v x.toNat:Nat)
structure TidyV (F:PFunc) (v:Nat→Nat):Prop where
 hd:∀(k i:Nat),(hds F)[k]?=some i→v i=k
 fo:∀a b,fol F a b=true→v b=v a
def tidyBlk(F:PFunc)(v:Nat→Nat)(i:Nat)(L:List PInst)(T:PTerm):PBlock:=⟨(F.blk i).name,(F.blk i).phis.map (mphi (vI v)),L,mterm (vI v) T⟩
def IsT(F G:PFunc):Prop:=∃v:Nat→Nat,TidyV F v∧G.vars=F.vars∧G.params=F.params∧G.blocks.length=(hds F).length∧∀(k i:Nat),(hds F)[k]?=some i→∃L T,Ch F i L T∧G.blocks[k]?=some (tidyBlk F v i L T)
section
variable {F G G':PFunc} {a b i j x y k:Nat} {L L':List PInst} {T T':PTerm} {r v v':Nat→Nat}
theorem hd_iff:isHd F i=true↔∀a,fol F a i=false:=by
 unfold isHd;rw[List.all_eq_true];constructor
 · intro h a
   cases e:fol F a i
   · rfl
   · have:=h a (List.mem_range.2 (fol_parts e).1)
     rw[e]at this;cases this
 · intro h a _
   rw[h a];rfl
theorem Ch.uniq(h:Ch F i L T):∀{L' T'},Ch F i L' T'→L'=L∧T'=T:=by
 induction h with
 |last h=>
  intro L' T' h';cases h' with
  |last _=>exact⟨rfl,rfl⟩
  |more h2 _=>rw[h]at h2;cases h2
 |more h _ ih=>
  intro L' T' h';cases h' with
  |last h2=>rw[h2]at h;cases h
  |more h2 hc2=>
   obtain rfl:=fol_next h h2;obtain⟨rfl,rfl⟩:=ih hc2;exact⟨rfl,rfl⟩
theorem Ch.end_(h:Ch F i L T)(hi:i<F.blocks.length):∃j,j<F.blocks.length∧T=(F.blk j).term:=by
 induction h with
 |last _=>exact⟨_,hi,rfl⟩
 |more h _ ih=>exact ih (fol_parts h).2.1
theorem hds_lt(h:(hds F)[k]?=some i):i<F.blocks.length∧isHd F i=true:=by
 have:=List.mem_filter.1 (List.mem_of_getElem? h);exact⟨List.mem_range.1 this.1,this.2⟩
theorem TidyV.uniq(hr:RkP F r)(h:TidyV F v)(h':TidyV F v'):∀m x,r x≤m→x<F.blocks.length→v x=v' x:=by
 intro m
 induction m with
 |zero=>
  intro x hx hlt;cases e:isHd F x
  · rw[Bool.eq_false_iff,Ne,hd_iff]at e
    refine absurd (fun a=>?_) e;cases e2:fol F a x
    · rfl
    · have:=hr _ _ e2;omega
  · obtain⟨k,hk⟩:=List.getElem?_of_mem (List.mem_filter.2 ⟨List.mem_range.2 hlt,e⟩:x∈hds F)
    rw[h.hd k x hk,h'.hd k x hk]
 |succ m ih=>
  intro x hx hlt;cases e:isHd F x
  · have:¬∀a,fol F a x=false:=fun h=>by rw[hd_iff.2 h]at e;cases e
    obtain⟨a,ha⟩:=Classical.not_forall.1 this;have ha:fol F a x=true:=by simpa using ha
    rw[h.fo _ _ ha,h'.fo _ _ ha];have:=hr _ _ ha;exact ih a ZO (fol_parts ha).1
  · obtain⟨k,hk⟩:=List.getElem?_of_mem (List.mem_filter.2 ⟨List.mem_range.2 hlt,e⟩:x∈hds F)
    rw[h.hd k x hk,h'.hd k x hk]
theorem mphi_congr{f g:Int→Int}{p:PPhi}(h:∀x∈p.froms,f x=g x):mphi f p=mphi g p:=by
 unfold mphi;rw[List.map_congr_left h]
theorem mterm_congr{f g:Int→Int}{t:PTerm}(h0:t.kind=0∨t.kind=1→f t.t0=g t.t0)(h1:t.kind=1→f t.t1=g t.t1):mterm f t=mterm g t:=by
 unfold mterm;split
 · rename_i e
   rw[h0 (.inl e)]
 · split
   · rename_i e
     rw[h0 (.inr e),h1 e]
   · rfl
theorem blk_congr(hg:InRg F)(hv:∀x,x<F.blocks.length→v x=v' x)(hi:i<F.blocks.length)(hc:Ch F i L T):tidyBlk F v i L T=tidyBlk F v' i L T:=by
 obtain⟨j,hj,rfl⟩:=hc.end_ hi;unfold tidyBlk;congr 1
 · refine List.map_congr_left fun p hp=>mphi_congr fun x hx=>?_
   obtain⟨k,rfl,hk⟩:=hg.fr i hi p hp x hx;unfold vI;rw[Int.toNat_natCast,hv k hk]
 · refine mterm_congr (fun e=>?_) (fun e=>?_)
   · obtain⟨k,h1,hk⟩:=hg.t0 j hj e
     rw[h1];unfold vI;rw[Int.toNat_natCast,hv k hk]
   · obtain⟨k,h1,hk⟩:=hg.t1 j hj e
     rw[h1];unfold vI;rw[Int.toNat_natCast,hv k hk]
theorem IsT.uniq(hr:RkP F r)(hg:InRg F)(h:IsT F G)(h':IsT F G'):G=G':=by
 obtain⟨v,hv,a1,a2,a3,a4⟩:=h;obtain⟨v',hv',b1,b2,b3,b4⟩:=h';have he:G.blocks=G'.blocks:=by
  refine List.ext_getElem? fun k=>?_
  by_cases hk:k<(hds F).length
  · have hk2:=List.getElem?_eq_getElem hk
    obtain⟨L,T,h1,h2⟩:=a4 k _ hk2;obtain⟨L',T',h3,h4⟩:=b4 k _ hk2;obtain⟨rfl,rfl⟩:=h1.uniq h3;rw[h2,h4,blk_congr hg (fun x hx=>TidyV.uniq hr hv hv' (r x) x (Nr _) hx) (hds_lt hk2).1 h1]
  · rw[List.getElem?_eq_none ZO,List.getElem?_eq_none ZO]
 cases G;cases G';simp only at *;subst a1 a2 he;rw[b1,b2]
theorem sg_up:sg b (up b j)=j:=by unfold sg up;split<;>split<;>omega
theorem put_hd(h:fol F a b=true)(hg:InRg F)(hr:RkP F r)(hj:j<F.blocks.length-1):isHd (putF F a b) j=isHd F (up b j):=by
 obtain⟨ha,hb,-,-,hab,-⟩:=fol_parts h;rw[Bool.eq_iff_iff,hd_iff,hd_iff];constructor
 · intro hq x
   cases e:fol F x (up b j)
   · rfl
   · have hx:=(fol_parts e).1
     by_cases e1:x=b
     · have:=put_fol h hg hr (sg_lt hab hb ha) hj
       rw[up_sg hab,if_pos rfl,hq]at this;rw[e1,← this]at e;cases e
     · by_cases e2:x=a
       · subst e2
         exact absurd (fol_next h e) up_ne
       · have:=put_fol h hg hr (sg_lt e1 hb hx) hj
         rw[up_sg e1,if_neg e2,hq,e]at this;cases this
 · intro hp x
   cases e:fol (putF F a b) x j
   · rfl
   · have hx:=(fol_parts e).1
     rw[put_len hb]at hx;rw[put_fol h hg hr hx hj,hp]at e;cases e
theorem put_hds(h:fol F a b=true)(hg:InRg F)(hr:RkP F r):hds F=(hds (putF F a b)).map (up b):=by
 obtain⟨-,hb,-⟩:=fol_parts h;have h1:hds F=((List.range F.blocks.length).filter fun i=>decide (i≠b)).filter (isHd F):=by
  unfold hds;rw[List.filter_filter];refine List.filter_congr fun x _=>?_
  by_cases e:x=b
  · subst e
    have:isHd F x=false:=by
     rw[Bool.eq_false_iff,Ne,hd_iff];intro hp;rw[hp]at h;cases h
    simp[this]
  · simp[e]
 rw[h1,range_cut hb,List.filter_map];unfold hds;rw[put_len hb];congr 1;refine List.filter_congr fun j hj=>?_
 exact(put_hd h hg hr (List.mem_range.1 hj)).symm
theorem put_ch(h:fol F a b=true)(hg:InRg F)(hr:RkP F r)(hc:Ch (putF F a b) j L T):j<F.blocks.length-1→∃U,Ch F (up b j) L U∧T=mterm (tnI a b) U:=by
 obtain⟨ha,hb,-,-,hab,-⟩:=fol_parts h
 induction hc with
 |@last j hno=>
  intro hj;rw[put_blk hb hj];unfold putB
  by_cases e:up b j=a
  · have h2:∀y,fol F b y=false:=fun y=>by
     cases e2:fol F b y
     · rfl
     · obtain⟨-,hy,-,-,hby,-⟩:=fol_parts e2
       have:=put_fol h hg hr hj (sg_lt (fun e=>hby e.symm) hb hy);rw[if_pos e,up_sg (fun e=>hby e.symm),e2,hno]at this;cases this
    refine⟨(F.blk b).term,?_,by simp only[if_pos e]⟩;simp only[if_pos e];rw[e];exact .more h (.last h2)
  · have h2:∀y,fol F (up b j) y=false:=fun y=>by
     cases e2:fol F (up b j) y
     · rfl
     · obtain⟨-,hy,-⟩:=fol_parts e2
       by_cases e3:y=b
       · subst e3
         exact absurd (fol_one h e2) e
       · have:=put_fol h hg hr hj (sg_lt e3 hb hy)
         rw[if_neg e,up_sg e3,e2,hno]at this;cases this
    refine⟨(F.blk (up b j)).term,?_,by simp only[if_neg e]⟩;simp only[if_neg e];exact .last h2
 |@more j c L T hf _ ih=>
  intro hj;have hc:=(fol_parts hf).2.1;rw[put_len hb]at hc;obtain⟨U,h1,h2⟩:=ih hc;rw[put_fol h hg hr hj hc]at hf;refine⟨U,?_,h2⟩;rw[put_blk hb hj];unfold putB
  by_cases e:up b j=a
  · rw[if_pos e]at hf
    simp only[if_pos e];rw[e,List.append_assoc];exact .more h (.more hf h1)
  · rw[if_neg e]at hf
    simp only[if_neg e];exact .more hf h1
theorem put_rg(h:fol F a b=true)(hg:InRg F):InRg (putF F a b):=by
 obtain⟨ha,hb,-,-,hab,-⟩:=fol_parts h;have key:∀x,x<F.blocks.length→∃k:Nat,tnI a b (x:Int)=k∧k<F.blocks.length-1:=fun x hx=>by
  by_cases e:x=b
  · subst e
    exact⟨_,tn_b,sg_lt hab hb ha⟩
  · exact⟨_,tn_sg e,sg_lt e hb hx⟩
 have hE:∀j,j<F.blocks.length-1→((putF F a b).blk j).term=mterm (tnI a b) (endAt F a b (up b j)):=fun j hj=>by rw[put_blk hb hj];rfl
 refine⟨fun j hj hk=>?_,fun j hj hk=>?_,fun j hj p hp x hx=>?_⟩<;>rw[put_len hb]at hj⊢
 · obtain⟨r0,-⟩:=end_rg hg hb (up_lt hb hj) (a:=a) (b:=b)
   rw[hE j hj]at hk ⊢;rw[(mterm_kind _ _).1]at hk;obtain⟨x,h1,h2⟩:=r0 hk;have:(mterm (tnI a b) (endAt F a b (up b j))).t0=tnI a b x:=by
    unfold mterm;rw[← h1]
    by_cases e:(endAt F a b (up b j)).kind=0
    · rw[if_pos e]
    · rw[if_neg e,if_pos (hk.resolve_left e)]
   rw[this];exact key x h2
 · obtain⟨-,r1⟩:=end_rg hg hb (up_lt hb hj) (a:=a) (b:=b)
   rw[hE j hj]at hk ⊢;rw[(mterm_kind _ _).1]at hk;obtain⟨x,h1,h2⟩:=r1 hk;have:(mterm (tnI a b) (endAt F a b (up b j))).t1=tnI a b x:=by
    unfold mterm;rw[← h1,if_neg (by rw[hk];decide),if_pos hk]
   rw[this];exact key x h2
 · rw[put_blk hb hj]at hp
   obtain⟨q,hq,rfl⟩:=List.mem_map.1 hp;obtain⟨y,hy,rfl⟩:=List.mem_map.1 hx;obtain⟨z,rfl,hz⟩:=hg.fr _ (up_lt hb hj) q hq y hy;exact key z hz
theorem put_tidy(h:fol F a b=true)(hg:InRg F)(hr:RkP F r)(hG:IsT (putF F a b) G):IsT F G:=by
 obtain⟨ha,hb,-,-,hab,-⟩:=fol_parts h;obtain⟨v,hv,a1,a2,a3,a4⟩:=hG;have hH:=put_hds h hg hr;have hv1:∀x,x<F.blocks.length→vI v (tnI a b (x:Int))=vI (fun x=>v (if x=b then sg b a else sg b x)) (x:Int):=fun x hx=>by
  unfold vI;rw[Int.toNat_natCast];show((v (tnI a b (x:Int)).toNat:Nat):Int)=((v (if x=b then sg b a else sg b x):Nat):Int)
  by_cases e:x=b
  · subst e
    rw[tn_b,Int.toNat_natCast,if_pos rfl]
  · rw[tn_sg e,Int.toNat_natCast,if_neg e]
 refine⟨fun x=>v (if x=b then sg b a else sg b x),⟨fun k i hk=>?_,fun x y hf=>?_⟩,a1,a2,by rw[a3,hH,List.length_map],fun k i hk=>?_⟩
 · rw[hH,List.getElem?_map]at hk
   obtain⟨j,hj,rfl⟩:=Option.map_eq_some_iff.1 hk;show v (if up b j=b then sg b a else sg b (up b j))=k;rw[if_neg up_ne,sg_up];exact hv.hd k j hj
 · obtain⟨hx,hy,-⟩:=fol_parts hf
   show v (if y=b then sg b a else sg b y)=v (if x=b then sg b a else sg b x)
   by_cases e:y=b
   · subst e
     obtain rfl:=fol_one h hf;rw[if_pos rfl,if_neg hab]
   · rw[if_neg e]
     by_cases e1:x=b
     · subst e1
       rw[if_pos rfl];refine hv.fo _ _ ?_;rw[put_fol h hg hr (sg_lt hab hb ha) (sg_lt e hb hy),up_sg hab,if_pos rfl,up_sg e];exact hf
     · rw[if_neg e1]
       refine hv.fo _ _ ?_;have e2:x≠a:=fun e2=>by
        subst e2;exact e (fol_next h hf)
       rw[put_fol h hg hr (sg_lt e1 hb hx) (sg_lt e hb hy),up_sg e1,if_neg e2,up_sg e];exact hf
 · rw[hH,List.getElem?_map]at hk
   obtain⟨j,hj,rfl⟩:=Option.map_eq_some_iff.1 hk;have hj2:=(hds_lt hj).1;rw[put_len hb]at hj2;obtain⟨L,T,h1,h2⟩:=a4 k j hj;obtain⟨U,h3,rfl⟩:=put_ch h hg hr h1 hj2;refine⟨L,U,h3,?_⟩;rw[h2];congr 1;unfold tidyBlk;rw[put_blk hb hj2];have hui:=up_lt hb hj2;obtain⟨z,hz,rfl⟩:=h3.end_ hui;congr 1
   · unfold putB
     simp only[List.map_map];refine List.map_congr_left fun p hp=>?_
     unfold mphi;simp only[Function.comp,List.map_map];congr 1;refine List.map_congr_left fun x hx=>?_
     obtain⟨k',rfl,hk'⟩:=hg.fr _ hui p hp x hx;exact hv1 k' hk'
   · have h0:=hg.t0 z hz
     have h1:=hg.t1 z hz;generalize (F.blk z).term=t at *;unfold mterm
     by_cases e:t.kind=0
     · obtain⟨k',hk',hk2⟩:=h0 (.inl e)
       simp only[if_pos e,hk',hv1 k' hk2]
     · by_cases e1:t.kind=1
       · obtain⟨k',hk',hk2⟩:=h0 (.inr e1)
         obtain⟨k3,hk3,hk4⟩:=h1 e1;simp only[if_neg e,if_pos e1,hk',hk3,hv1 k' hk2,hv1 k3 hk4]
       · simp only[if_neg e,if_neg e1]
theorem tidy_self(hg:InRg F)(h:∀a b,fol F a b=false):IsT F F:=by
 have hH:hds F=List.range F.blocks.length:=List.filter_eq_self.2 fun i _=>hd_iff.2 fun a=>h a i
 have hk':∀{k i},(hds F)[k]?=some i→i=k:=fun {k i} hk=>by
  rw[hH]at hk;have hlt:=(List.getElem?_eq_some_iff.1 hk).1;rw[List.getElem?_eq_getElem hlt]at hk;simpa using hk.symm
 refine⟨fun x=>x,⟨fun k i hk=>hk' hk,fun a b hf=>by rw[h]at hf;cases hf⟩,rfl,rfl,by rw[hH,List.length_range],fun k i hk=>⟨_,_,.last (h i),?_⟩⟩;have hi:=(hds_lt hk).1;obtain rfl:=hk' hk;rw[PFunc.blk_get hi];congr 1;have e1:(F.blk i).phis.map (mphi (vI fun x=>x))=(F.blk i).phis:=by
  conv=>rhs;rw[← List.map_id (F.blk i).phis]
  refine List.map_congr_left fun p hp=>?_
  have:p.froms.map (vI fun x=>x)=p.froms:=by
   conv=>rhs;rw[← List.map_id p.froms]
   refine List.map_congr_left fun x hx=>?_
   obtain⟨k,rfl,-⟩:=hg.fr i hi p hp x hx;simp[vI]
  unfold mphi;rw[this];rfl
 have e2:mterm (vI fun x=>x) (F.blk i).term=(F.blk i).term:=by
  have h0:=hg.t0 i hi;have h1:=hg.t1 i hi;generalize (F.blk i).term=t at *;unfold mterm
  by_cases e:t.kind=0
  · obtain⟨k,hk,-⟩:=h0 (.inl e)
    rw[if_pos e,hk];have:vI (fun x=>x) (k:Int)=t.t0:=by rw[hk];simp[vI]
    rw[this]
  · by_cases e1:t.kind=1
    · obtain⟨k,hk,-⟩:=h0 (.inr e1)
      obtain⟨k3,hk3,-⟩:=h1 e1;rw[if_neg e,if_pos e1,hk,hk3];have q1:vI (fun x=>x) (k:Int)=t.t0:=by rw[hk];simp[vI]
      have q2:vI (fun x=>x) (k3:Int)=t.t1:=by rw[hk3];simp[vI]
      rw[q1,q2]
    · rw[if_neg e,if_neg e1]
 unfold tidyBlk;rw[e1,e2]
end
def insN(F:PFunc):Nat:=((List.range F.blocks.length).map fun i=>(F.blk i).insts.length).sum
section
variable {F G:PFunc} {a b i:Nat}
theorem sum_at{f:Nat→Nat}{c:Nat}:∀{l:List Nat},l.Nodup→(l.map fun i=>if i=a then f i+c else f i).sum=(l.map f).sum+if a∈l then c else 0
 |[],_=>by simp
 |x::l,hn=>by
  obtain⟨h1,h2⟩:=List.nodup_cons.1 hn;rw[List.map_cons,List.sum_cons,sum_at h2,List.map_cons,List.sum_cons]
  by_cases e:x=a
  · subst e
    rw[if_pos rfl,if_neg h1,if_pos (List.mem_cons_self ..)];omega
  · have h3:a∈x::l↔a∈l:=by
     rw[List.mem_cons];exact⟨fun h=>h.resolve_left fun e2=>e e2.symm,.inr⟩
    rw[if_neg e]
    by_cases h4:a∈l
    · rw[if_pos h4,if_pos (h3.2 h4)]
      omega
    · rw[if_neg h4,if_neg (fun h=>h4 (h3.1 h))]
      omega
theorem sum_ne{f:Nat→Nat}:∀{l:List Nat},l.Nodup→b∈l→(l.map f).sum=((l.filter fun i=>decide (i≠b)).map f).sum+f b
 |[],_,h=>by simp at h
 |x::l,hn,h=>by
  obtain⟨h1,h2⟩:=List.nodup_cons.1 hn;rw[List.map_cons,List.sum_cons]
  by_cases e:x=b
  · subst e
    have h3:l.filter (fun i=>decide (i≠x))=l:=List.filter_eq_self.2 fun y hy=>by
     simp;intro e;exact h1 (e▸hy)
    rw[List.filter_cons_of_neg (p:=fun i=>decide (i≠x)) ZS,h3];omega
  · have ih:=sum_ne (f:=f) h2 ((List.mem_cons.1 h).resolve_left fun e2=>e e2.symm)
    rw[List.filter_cons_of_pos (p:=fun i=>decide (i≠b)) (by simpa using e),List.map_cons,List.sum_cons];omega
theorem put_ins(ha:a<F.blocks.length)(hb:b<F.blocks.length)(hab:a≠b):insN (putF F a b)=insN F:=by
 have hnd:(List.range F.blocks.length).Nodup:=List.nodup_range;have e1:insN (putF F a b)=(((List.range F.blocks.length).filter fun i=>decide (i≠b)).map fun i=>if i=a then(F.blk i).insts.length+(F.blk b).insts.length else(F.blk i).insts.length).sum:=by
  unfold insN;rw[put_len hb,range_cut hb,List.map_map];refine congrArg List.sum (List.map_congr_left fun j hj=>?_);rw[put_blk hb (List.mem_range.1 hj)];show(if up b j=a then(F.blk a).insts++(F.blk b).insts else(F.blk (up b j)).insts).length=if up b j=a then(F.blk (up b j)).insts.length+(F.blk b).insts.length else(F.blk (up b j)).insts.length
  by_cases e:up b j=a
  · rw[if_pos e,if_pos e,List.length_append,e]
  · rw[if_neg e,if_neg e]
 rw[e1,sum_at (f:=fun i=>(F.blk i).insts.length) (hnd.filter _),if_pos (List.mem_filter.2 ⟨List.mem_range.2 ha,by simpa using hab⟩)];unfold insN;rw[sum_ne (b:=b) hnd (List.mem_range.2 hb)]
structure PutS (F G:PFunc):Prop where
 str:∀H,IsT G H→IsT F H
 rg:InRg G
 rk:∃r,RkP G r
 vars:G.vars=F.vars
 params:G.params=F.params
 len:G.blocks.length≤F.blocks.length
 pos:1≤G.blocks.length
 ins:insN G=insN F
 blk:∀i,i<G.blocks.length→∃j,j<F.blocks.length∧(G.blk i).name=(F.blk j).name∧(G.blk i).phis.length=(F.blk j).phis.length∧∀k,((G.blk i).phi k).args=((F.blk j).phi k).args∧((G.blk i).phi k).froms.length=((F.blk j).phi k).froms.length
theorem PutS.refl{r:Nat→Nat}(hr:RkP F r)(hg:InRg F)(h1:1≤F.blocks.length):PutS F F:=
 ⟨fun _ h=>h,hg,⟨r,hr⟩,rfl,rfl,Nr _,h1,rfl,fun i hi=>⟨i,hi,rfl,rfl,fun _=>⟨rfl,rfl⟩⟩⟩
theorem PutS.put(h:PutS F G)(hf:fol G a b=true):PutS F (putF G a b)∧(putF G a b).blocks.length<G.blocks.length:=by
 obtain⟨r,hr⟩:=h.rk;obtain⟨ha,hb,-,-,hab,-⟩:=fol_parts hf;have hl:=put_len (a:=a) hb;have hlt:(putF G a b).blocks.length<G.blocks.length:=by omega
 refine⟨⟨fun H hH=>h.str H (put_tidy hf h.rg hr hH),put_rg hf h.rg,⟨_,put_rk hf h.rg hr⟩,h.vars,h.params,by have:=h.len;omega,ZO,by rw[put_ins ha hb hab];exact h.ins,fun i hi=>?_⟩,hlt⟩;rw[hl]at hi;obtain⟨j,h1,h2,h3,h4⟩:=h.blk (up b i) (up_lt hb hi);rw[put_blk hb hi];refine⟨j,h1,h2,by rw[← h3];exact List.length_map _,fun k=>?_⟩;obtain⟨h5,h6⟩:=h4 k;rw[← h5,← h6];have e:(putB G a b (up b i)).phi k=if k<(G.blk (up b i)).phis.length then mphi (tnI a b) ((G.blk (up b i)).phi k) else(putB G a b (up b i)).phi k:=by
  split
  · rename_i hk
    unfold PBlock.phi putB;simp[List.getD_eq_getElem?_getD,hk]
  · rfl
 rw[e];split
 · exact⟨rfl,List.length_map _⟩
 · rename_i hk
   have e1:(putB G a b (up b i)).phi k=(G.blk (up b i)).phi k:=by
    unfold PBlock.phi putB;simp[List.getD_eq_getElem?_getD,hk]
   rw[e1];exact⟨rfl,rfl⟩
theorem PutS.fin(h:PutS F G)(hn:∀a b,fol G a b=false):IsT F G:=h.str G (tidy_self h.rg hn)
end
end Go.Proofs.YthhjlbflpjhahaaGreatDoor
