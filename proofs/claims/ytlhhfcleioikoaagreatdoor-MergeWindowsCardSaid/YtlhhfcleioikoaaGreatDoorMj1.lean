/- The plain law of merge: of checks of places of one array one is left. No program's code in sight. -/
import Derived.Test.YtlhhfcleioikoaaGreatDoorOps
import Derived.Test.YtlhhfcleioikoaaGreatDoorMj0
import Derived.Test.YtlhhfcleioikoaaGreatDoorFnOf
import Derived.Maps.OwnSet
import Derived.Maps.Views
import Derived.Test.YtlhhfcleioikoaaGreatDoorMkAt
namespace Go.Proofs.YtlhhfcleioikoaaGreatDoor
open Go.RowKit
set_option maxRecDepth 100000
def isQ(x:PInst):Bool:=!(decide (x.op=15)||decide (x.op=17)||decide (19≤x.op∧x.op≤24))
def winL(l:List PInst):Nat:=(l.takeWhile isQ).length
def fixP(k:Int→Option Int)(x:PInst):Option Int:=
 if x.op=18 then(k (ith x.args 1)).bind fun n=>if 0≤n then some n else none else none
def chk(a v:Int):PInst:=⟨18,-1,[a,v],0⟩
def gstep(k:Int→Option Int)(a:Int)(n j:Nat)(y:PInst)(s:List PInst×Int×Int):List PInst×Int×Int:=
 match fixP k y with
 |some m=>if j<n∧ith y.args 0=a then(if s.2.1<m then(s.1,m,ith y.args 1) else s) else(s.1++[y],s.2)
 |none=>(s.1++[y],s.2)
def gat(k:Int→Option Int)(a:Int)(n:Nat)(b v:Int)(l:List PInst):Nat→List PInst×Int×Int
 |0=>([],b,v)
 |j+1=>match l[j]? with
  |some y=>gstep k a n j y (gat k a n b v l j)
  |none=>gat k a n b v l j
def mrgS(k:Int→Option Int)(x:PInst)(l:List PInst):List PInst×List PInst:=
 match fixP k x with
 |none=>([x],l)
 |some b=>
  let g:=gat k (ith x.args 0) (winL l) b (ith x.args 1) l l.length
  if g.2.2=ith x.args 1 then([chk (ith x.args 0) g.2.2],g.1)
  else(g.1.filter (fun y=>decide (y.dst=g.2.2))++[chk (ith x.args 0) g.2.2],g.1.filter fun y=>decide (y.dst≠g.2.2))
def mrgD(k:Int→Option Int):Nat→List PInst→List PInst
 |0,l=>l
 |_,[]=>[]
 |f+1,x::l=>(mrgS k x l).1++mrgD k f (mrgS k x l).2
def mrgL(k:Int→Option Int)(l:List PInst):List PInst:=mrgD k l.length l
section
variable {k:Int→Option Int} {a b v:Int} {n j:Nat} {l:List PInst} {x y:PInst}
theorem winL_le:winL l≤l.length:=(List.takeWhile_sublist _).length_le
theorem gat_succ(h:l[j]?=some y):gat k a n b v l (j+1)=gstep k a n j y (gat k a n b v l j):=by rw[gat,h]
theorem gstep_no(h:fixP k y=none){s:List PInst×Int×Int}:gstep k a n j y s=(s.1++[y],s.2):=by rw[gstep,h]
theorem gstep_far{m:Int}(h:fixP k y=some m)(hn:¬(j<n∧ith y.args 0=a)){s:List PInst×Int×Int}:gstep k a n j y s=(s.1++[y],s.2):=by
 rw[gstep,h];exact if_neg hn
theorem gstep_up{m:Int}(h:fixP k y=some m)(hn:j<n∧ith y.args 0=a){s:List PInst×Int×Int}(hm:s.2.1<m):gstep k a n j y s=(s.1,m,ith y.args 1):=by
 rw[gstep,h];simp only[];rw[if_pos hn,if_pos hm]
theorem gstep_eq{m:Int}(h:fixP k y=some m)(hn:j<n∧ith y.args 0=a){s:List PInst×Int×Int}(hm:¬s.2.1<m):gstep k a n j y s=s:=by
 rw[gstep,h];simp only[];rw[if_pos hn,if_neg hm]
theorem gstep_sub{s:List PInst×Int×Int}:(gstep k a n j y s).1=s.1∨(gstep k a n j y s).1=s.1++[y]:=by
 cases h:fixP k y with
 |none=>exact .inr (by rw[gstep_no h])
 |some m=>
  by_cases h1:j<n∧ith y.args 0=a
  · by_cases h2:s.2.1<m
    · exact .inl (by rw[gstep_up h h1 h2])
    · exact .inl (by rw[gstep_eq h h1 h2])
  · exact .inr (by rw[gstep_far h h1])
theorem gat_sub:∀{j:Nat},j≤l.length→(gat k a n b v l j).1.Sublist (l.take j)
 |0,_=>by simp[gat]
 |j+1,h=>by
  have h1:=gat_sub (j:=j) ZO;have h2:l[j]?=some (l[j]'(ZO)):=List.getElem?_eq_getElem ZO;rw[gat_succ h2,List.take_add_one,h2];rcases gstep_sub (k:=k) (a:=a) (n:=n) (j:=j) (y:=l[j]'(ZO)) (s:=gat k a n b v l j)with e|e
  · rw[e]
    exact h1.trans (List.sublist_append_left _ _)
  · rw[e]
    exact h1.append (List.Sublist.refl _)
theorem gat_len(h:j≤l.length):(gat k a n b v l j).1.length≤j:=by
 have:=(gat_sub (k:=k) (a:=a) (n:=n) (b:=b) (v:=v) h).length_le;rw[List.length_take]at this;omega
theorem gat_all:(gat k a n b v l l.length).1.Sublist l:=by
 have:=gat_sub (k:=k) (a:=a) (n:=n) (b:=b) (v:=v) (l:=l) (Nat.le_refl _)
 rwa [List.take_length]at this
theorem gat_var:∀{j:Nat},j≤l.length→(gat k a n b v l j).2.2=v∨∃y∈l,y.op=18∧(gat k a n b v l j).2.2=ith y.args 1
 |0,_=>.inl rfl
 |j+1,h=>by
  have h1:=gat_var (j:=j) ZO;have h2:l[j]?=some (l[j]'(ZO)):=List.getElem?_eq_getElem ZO;rw[gat_succ h2];generalize l[j]'(ZO)=y at h2 ⊢;cases hf:fixP k y with
  |none=>
   rw[gstep_no hf];exact h1
  |some m=>
   by_cases hn:j<n∧ith y.args 0=a
   · by_cases hm:(gat k a n b v l j).2.1<m
     · rw[gstep_up hf hn hm]
       refine .inr ⟨y,List.mem_of_getElem? h2,?_,rfl⟩;unfold fixP at hf;split at hf
       · exact ZA
       · cases hf
     · rw[gstep_eq hf hn hm]
       exact h1
   · rw[gstep_far hf hn]
     exact h1
theorem filter_two(p:PInst→Bool):∀(l:List PInst),(l.filter p).length+(l.filter fun y=>!p y).length=l.length
 |[]=>rfl
 |x::l=>by
  have:=filter_two p l;cases h:p x<;>simp[h]<;>omega
theorem not_dec{y:PInst}{v:Int}:decide (y.dst≠v)=!decide (y.dst=v):=by simp
theorem mrgS_len:(mrgS k x l).1.length+(mrgS k x l).2.length≤l.length+1∧(mrgS k x l).2.length≤l.length:=by
 unfold mrgS;cases h:fixP k x with
 |none=>simp;omega
 |some b=>
  simp only[];have h1:=(gat_all (k:=k) (a:=ith x.args 0) (n:=winL l) (b:=b) (v:=ith x.args 1) (l:=l)).length_le;split
  · exact⟨by simp only[List.length_singleton];omega,h1⟩
  · have h2:=filter_two (fun y=>decide (y.dst=(gat k (ith x.args 0) (winL l) b (ith x.args 1) l l.length).2.2)) (gat k (ith x.args 0) (winL l) b (ith x.args 1) l l.length).1
    simp only[not_dec,List.length_append,List.length_cons,List.length_nil]at *;omega
theorem mrgD_of:∀{f g:Nat} {l:List PInst},l.length≤f→l.length≤g→mrgD k f l=mrgD k g l
 |0,0,_,_,_=>rfl
 |0,g+1,l,h,_=>by rw[List.eq_nil_of_length_eq_zero (by omega:l.length=0)];rfl
 |f+1,0,l,_,h=>by rw[List.eq_nil_of_length_eq_zero (by omega:l.length=0)];rfl
 |f+1,g+1,[],_,_=>rfl
 |f+1,g+1,x::l,h,h'=>by
  have:=(mrgS_len (k:=k) (x:=x) (l:=l)).2;simp only[List.length_cons]at h h';rw[mrgD,mrgD,mrgD_of (f:=f) (g:=g) ZO ZO]
theorem mrgL_nil:mrgL k []=[]:=rfl
theorem mrgL_cons:mrgL k (x::l)=(mrgS k x l).1++mrgL k (mrgS k x l).2:=by
 have:=(mrgS_len (k:=k) (x:=x) (l:=l)).2;unfold mrgL;rw[List.length_cons,mrgD,mrgD_of (f:=l.length) (g:=(mrgS k x l).2.length) ZO (Nat.le_refl _)]
theorem mrgS_pos:0<(mrgS k x l).1.length:=by
 unfold mrgS;cases h:fixP k x with
 |none=>simp
 |some b=>
  simp only[];split<;>simp
end
def OnceL(l:List PInst):Prop:=∀v:Int,0≤v→(l.filter fun y=>decide (y.dst=v)).length≤1
def ShC(x:PInst):Prop:=x.op=18→∃a v:Int,x=chk a v∧0≤v
section
variable {k:Int→Option Int} {l T:List PInst} {x:PInst}
theorem OnceL.sub{l l':List PInst}(h:OnceL l)(hs:l'.Sublist l):OnceL l':=fun v hv=>Nat.le_trans (hs.filter _).length_le (h v hv)
theorem once_idx{l:List PInst}{v:Int}(h:(l.filter fun y=>decide (y.dst=v)).length≤1){A B:List PInst}{m:PInst}(e:l=A++m::B)(hm:m.dst=v) :
 l.filter (fun y=>decide (y.dst=v))=[m]∧l.filter (fun y=>decide (y.dst≠v))=A++B:=by
 subst e;have hA:A.filter (fun y=>decide (y.dst=v))=[]:=by
  rw[List.filter_append,List.filter_cons,if_pos (by simpa using hm),List.length_append,List.length_cons]at h;exact List.eq_nil_of_length_eq_zero ZO
 have hB:B.filter (fun y=>decide (y.dst=v))=[]:=by
  rw[List.filter_append,List.filter_cons,if_pos (by simpa using hm),List.length_append,List.length_cons]at h;exact List.eq_nil_of_length_eq_zero ZO
 have nA:A.filter (fun y=>decide (y.dst≠v))=A:=List.filter_eq_self.2 fun y hy=>by
  have:=List.filter_eq_nil_iff.1 hA y hy;simpa using this
 have nB:B.filter (fun y=>decide (y.dst≠v))=B:=List.filter_eq_self.2 fun y hy=>by
  have:=List.filter_eq_nil_iff.1 hB y hy;simpa using this
 refine⟨?_,?_⟩
 · rw[List.filter_append,hA,List.filter_cons,if_pos (by simpa using hm),hB]
   rfl
 · rw[List.filter_append,nA,List.filter_cons,if_neg (by simpa using hm),nB]
theorem no_filter{l:List PInst}{v:Int}(h:l.filter (fun y=>decide (y.dst=v))=[]):l.filter (fun y=>decide (y.dst≠v))=l:=List.filter_eq_self.2 fun y hy=>by
 have:=List.filter_eq_nil_iff.1 h y hy;simpa using this
theorem firstIdx_at{α:Type}{p:α→Bool}:∀(l:List α) (i:Nat),(firstIdx p l i=-1∧l.filter p=[])∨∃A m B,l=A++m::B∧firstIdx p l i=((i+A.length:Nat):Int)∧p m=true∧A.filter p=[]
 |[],i=>.inl ⟨rfl,rfl⟩
 |x::r,i=>by
  unfold firstIdx;cases h:p x
  · rcases firstIdx_at r (i+1)with⟨h1,h2⟩|⟨A,m,B,h1,h2,h3,h4⟩
    · exact .inl ⟨by simpa using h1,by simp[h,h2]⟩
    · refine .inr ⟨x::A,m,B,by rw[h1];rfl,?_,h3,by simp[h,h4]⟩
      simp only[Bool.false_eq_true,if_false,h2,List.length_cons];omega
  · exact .inr ⟨[],x,r,rfl,ZS,h,rfl⟩
theorem code_stay{b:Int}(hO:OnceL (T++x::l))(hf:fixP k x=some b){g:List PInst×Int×Int}(hg:g=gat k (ith x.args 0) (winL l) b (ith x.args 1) l l.length)(hv0:0≤g.2.2)
 (hc:firstIdx (fun y=>decide (y.dst=g.2.2)) (T++chk (ith x.args 0) g.2.2::g.1) 0<(T.length:Int)):mrgS k x l=([chk (ith x.args 0) g.2.2],g.1):=by
 have hs:g.1.Sublist l:=by rw[hg];exact gat_all
 unfold mrgS;rw[hf];simp only[];rw[← hg]
 by_cases hv:g.2.2=ith x.args 1
 · rw[if_pos hv]
 · rw[if_neg hv]
   have hnil:g.1.filter (fun y=>decide (y.dst=g.2.2))=[]:=by
    rcases firstIdx_at (p:=fun y:PInst=>decide (y.dst=g.2.2)) (T++chk (ith x.args 0) g.2.2::g.1) 0 with⟨-,h⟩|⟨A,m,B,e,h2,h3,-⟩
    · rw[List.filter_append,List.append_eq_nil_iff]at h
      have h5:=h.2;rw[List.filter_cons]at h5;split at h5
      · cases h5
      · exact h5
    · rw[h2]at hc
      have hA:A.length<T.length:=by omega
      have hm:m∈T:=by
       have h4:(T++chk (ith x.args 0) g.2.2::g.1)[A.length]?=some m:=by rw[e];simp
       rw[List.getElem?_append_left hA]at h4;exact List.mem_of_getElem? h4
      have h6:=hO g.2.2 hv0;rw[List.filter_append,List.length_append]at h6;have h7:0<(T.filter fun y=>decide (y.dst=g.2.2)).length:=List.length_pos_of_mem (List.mem_filter.2 ⟨hm,h3⟩);have h8:((x::l).filter fun y=>decide (y.dst=g.2.2)).length=0:=by omega
      have h9:=(hs.filter (fun y=>decide (y.dst=g.2.2))).length_le;have h10:=((List.sublist_cons_self x l).filter (fun y=>decide (y.dst=g.2.2))).length_le;exact List.eq_nil_of_length_eq_zero ZO
   rw[hnil,no_filter hnil];rfl
theorem code_move{b:Int}(hO:OnceL (T++x::l))(hf:fixP k x=some b){g:List PInst×Int×Int}(hg:g=gat k (ith x.args 0) (winL l) b (ith x.args 1) l l.length)(hv0:0≤g.2.2)(hv:g.2.2≠ith x.args 1)
 {c:Nat} (hc:firstIdx (fun y=>decide (y.dst=g.2.2)) (T++chk (ith x.args 0) g.2.2::g.1) 0=(c:Int)) (hcT:T.length≤c) :
 ∃m A B,g.1=A++m::B∧c=T.length+1+A.length∧mrgS k x l=([m,chk (ith x.args 0) g.2.2],A++B):=by
 have hs:g.1.Sublist l:=by rw[hg];exact gat_all
 rcases firstIdx_at (p:=fun y:PInst=>decide (y.dst=g.2.2)) (T++chk (ith x.args 0) g.2.2::g.1) 0 with⟨h,-⟩|⟨A,m,B,e,h2,h3,-⟩
 · rw[h]at hc
   omega
 · have hcA:c=A.length:=by rw[h2]at hc;omega
   have h3':m.dst=g.2.2:=by simpa using h3
   have e1:(T++chk (ith x.args 0) g.2.2::g.1).drop c=m::B:=by rw[e,hcA];exact List.drop_left
   rw[List.drop_append,List.drop_eq_nil_of_le hcT,List.nil_append]at e1;have hne:c-T.length≠0:=by
    intro e0;rw[e0,List.drop_zero]at e1;injection e1 with e2 _
    rw[← e2]at h3';have:(-1:Int)=g.2.2:=h3';omega
   obtain⟨d,hd⟩:∃d,c-T.length=d+1:=⟨c-T.length-1,ZO⟩;rw[hd,List.drop_succ_cons]at e1;have e2:g.1=g.1.take d++m::B:=by rw[← e1,List.take_append_drop]
   have hdl:(g.1.take d).length=d:=by
    have:=congrArg List.length e1;rw[List.length_drop,List.length_cons]at this;rw[List.length_take];omega
   refine⟨m,g.1.take d,B,e2,by rw[hdl];omega,?_⟩;have hon:(g.1.filter fun y=>decide (y.dst=g.2.2)).length≤1:=by
    have h6:=hO g.2.2 hv0;rw[List.filter_append,List.length_append]at h6;have h9:=(hs.filter (fun y=>decide (y.dst=g.2.2))).length_le;have h10:=((List.sublist_cons_self x l).filter (fun y=>decide (y.dst=g.2.2))).length_le;omega
   obtain⟨f1,f2⟩:=once_idx hon e2 h3';unfold mrgS;rw[hf];simp only[];rw[← hg,if_neg hv,f1,f2];rfl
theorem mrgS_mem{m:PInst}(h:m∈(mrgS k x l).1++(mrgS k x l).2):m=x∨m∈l∨∃b,fixP k x=some b∧m=chk (ith x.args 0) (gat k (ith x.args 0) (winL l) b (ith x.args 1) l l.length).2.2:=by
 unfold mrgS at h;cases hf:fixP k x with
 |none=>
  rw[hf]at h;simp at h;rcases h with h|h
  · exact .inl h
  · exact .inr (.inl h)
 |some b=>
  rw[hf]at h;simp only[]at h;have hs:=gat_all (k:=k) (a:=ith x.args 0) (n:=winL l) (b:=b) (v:=ith x.args 1) (l:=l);generalize hg:gat k (ith x.args 0) (winL l) b (ith x.args 1) l l.length=g at *;split at h
  · simp at h
    rcases h with h|h
    · exact .inr (.inr ⟨b,rfl,by rw[hg];exact h⟩)
    · exact .inr (.inl (hs.subset h))
  · simp only[List.mem_append,List.mem_filter,List.mem_singleton]at h
    rcases h with(h|h)|h
    · exact .inr (.inl (hs.subset h.1))
    · exact .inr (.inr ⟨b,rfl,by rw[hg];exact h⟩)
    · exact .inr (.inl (hs.subset h.1))
theorem mrgS_count{v:Int}(hv:0≤v):(((mrgS k x l).1++(mrgS k x l).2).filter fun y=>decide (y.dst=v)).length≤((x::l).filter fun y=>decide (y.dst=v)).length:=by
 unfold mrgS;cases hf:fixP k x with
 |none=>simp
 |some b=>
  simp only[];have hs:=(gat_all (k:=k) (a:=ith x.args 0) (n:=winL l) (b:=b) (v:=ith x.args 1) (l:=l)).filter (fun y=>decide (y.dst=v));have hl:=hs.length_le;have hc:∀u,¬(decide ((chk (ith x.args 0) u).dst=v))=true:=fun u=>by
   have:(chk (ith x.args 0) u).dst=-1:=rfl;rw[this];simp;omega
  have h10:=((List.sublist_cons_self x l).filter (fun y=>decide (y.dst=v))).length_le;generalize gat k (ith x.args 0) (winL l) b (ith x.args 1) l l.length=g at *;split
  · rw[List.filter_append,List.filter_cons,if_neg (hc _)]
    simp;omega
  · rw[List.filter_append,List.filter_append,List.filter_cons (x:=chk _ _),if_neg (hc _)]
    have h1:((g.1.filter fun y=>decide (y.dst=g.2.2)).filter fun y=>decide (y.dst=v)).length+((g.1.filter fun y=>decide (y.dst≠g.2.2)).filter fun y=>decide (y.dst=v)).length=(g.1.filter fun y=>decide (y.dst=v)).length:=by
     have:=filter_two (fun y=>decide (y.dst=g.2.2)) (g.1.filter fun y=>decide (y.dst=v));simp only[List.filter_filter,not_dec]at *;rw[← this];congr 2<;>(refine List.filter_congr fun y _=>?_;rw[Bool.and_comm])
    simp only[List.length_append,List.filter_nil,List.append_nil]at *;omega
theorem OnceL.step(hO:OnceL (T++x::l)):OnceL (T++(mrgS k x l).1++(mrgS k x l).2):=fun v hv=>by
 have h1:=mrgS_count (k:=k) (l:=l) (x:=x) hv;have h2:=hO v hv;rw[List.filter_append,List.length_append]at h2;rw[List.append_assoc,List.filter_append,List.length_append];omega
theorem ShC.var(hx:ShC x){b:Int}(hf:fixP k x=some b)(hl:∀y∈l,ShC y):0≤(gat k (ith x.args 0) (winL l) b (ith x.args 1) l l.length).2.2:=by
 have hop:x.op=18:=by
  unfold fixP at hf;split at hf
  · exact ZA
  · cases hf
 rcases gat_var (k:=k) (a:=ith x.args 0) (n:=winL l) (b:=b) (v:=ith x.args 1) (l:=l) (Nat.le_refl _)with e|⟨y,hy,h1,e⟩
 · rw[e]
   obtain⟨a,v,rfl,h0⟩:=hx hop;exact h0
 · rw[e]
   obtain⟨a,v,rfl,h0⟩:=hl y hy h1;exact h0
theorem ShC.step(hx:ShC x)(hl:∀y∈l,ShC y):∀y∈(mrgS k x l).1++(mrgS k x l).2,ShC y:=fun y hy=>by
 rcases mrgS_mem hy with rfl|h|⟨b,hf,rfl⟩
 · exact hx
 · exact hl y h
 · exact fun _=>⟨_,_,rfl,hx.var hf hl⟩
end
def OkI(x:PInst):Prop:=0≤x.op∧x.op<27∧(x.op=18→∃a v:Int,x=chk a v∧0≤v∧v≤1048576)
theorem OkI.sh{x:PInst}(h:OkI x):ShC x:=fun h1=>by
 obtain⟨a,v,e,h0,-⟩:=h.2.2 h1;exact⟨a,v,e,h0⟩
theorem fixP_op{k:Int→Option Int}{x:PInst}{b:Int}(h:fixP k x=some b):x.op=18:=by
 unfold fixP at h;split at h
 · exact ZA
 · cases h
theorem OkI.var{k:Int→Option Int}{x:PInst}{l:List PInst}{b:Int}{j:Nat}(hx:OkI x)(hf:fixP k x=some b)(hl:∀y∈l,OkI y)(hj:j≤l.length):0≤(gat k (ith x.args 0) (winL l) b (ith x.args 1) l j).2.2∧(gat k (ith x.args 0) (winL l) b (ith x.args 1) l j).2.2≤1048576:=by
 rcases gat_var (k:=k) (a:=ith x.args 0) (n:=winL l) (b:=b) (v:=ith x.args 1) (l:=l) hj with e|⟨y,hy,h1,e⟩
 · rw[e]
   obtain⟨a,v,rfl,h0,h9⟩:=hx.2.2 (fixP_op hf);exact⟨h0,h9⟩
 · rw[e]
   obtain⟨a,v,rfl,h0,h9⟩:=(hl y hy).2.2 h1;exact⟨h0,h9⟩
theorem OkI.step{k:Int→Option Int}{x:PInst}{l:List PInst}(hx:OkI x)(hl:∀y∈l,OkI y):∀y∈(mrgS k x l).1++(mrgS k x l).2,OkI y:=fun y hy=>by
 rcases mrgS_mem hy with rfl|h|⟨b,hf,rfl⟩
 · exact hx
 · exact hl y h
 · have:=hx.var hf hl (Nat.le_refl _)
   exact⟨(by decide:(0:Int)≤18),(by decide:(18:Int)<27),fun _=>⟨_,_,rfl,this.1,this.2⟩⟩
end Go.Proofs.YtlhhfcleioikoaaGreatDoor
namespace Go.Proofs.YtlhhfcleioikoaaGreatDoor
open Go.RowKit
set_option maxRecDepth 100000
def Chs(w:World)(ch:List (List Value))(xs:List PInst):Prop:=ch.length=xs.length∧∀(i:Nat) cs x,ch[i]?=some cs→xs[i]?=some x→cs.length=4∧CIn w cs x
theorem one_instI{w:World}{D:Nat→Prop}{cs:List Value}{x:PInst}(h:CInst w D cs x):∀y∈cs,y.oneCell'=true:=by
 obtain⟨v1,rfl,A,c,rfl,-⟩:=h;intro y hy;simp at hy;rcases hy with rfl|rfl|rfl|rfl<;>rfl
theorem flat4:∀{ch:List (List Value)},(∀c∈ch,c.length=4)→ch.flatten.length=ch.length*4
 |[],_=>rfl
 |c::ch,h=>by
  rw[List.flatten_cons,List.length_append,flat4 fun c hc=>h c (List.mem_cons_of_mem _ hc),h c (List.mem_cons_self ..),List.length_cons];omega
theorem flat_take4:∀{ch:List (List Value)} {i:Nat},(∀c∈ch,c.length=4)→ch.flatten.take (i*4)=(ch.take i).flatten
 |[],i,_=>by simp
 |c::ch,0,_=>by simp
 |c::ch,i+1,h=>by
  have hc:=h c (List.mem_cons_self ..);rw[List.flatten_cons,List.take_succ_cons,List.flatten_cons,← flat_take4 (ch:=ch) (i:=i) fun c hc=>h c (List.mem_cons_of_mem _ hc),show(i+1)*4=c.length+i*4 from ZO,List.take_length_add_append]
theorem flat_drop4{ch:List (List Value)}{i:Nat}(h:∀c∈ch,c.length=4):ch.flatten.drop (i*4)=(ch.drop i).flatten:=by
 have h1:ch.flatten=(ch.take i).flatten++(ch.drop i).flatten:=by rw[← List.flatten_append,List.take_append_drop]
 have h2:=flat_take4 (i:=i) h;rw[← List.take_append_drop (i*4) ch.flatten,h2]at h1;exact List.append_cancel_left h1
section
variable {w w':World} {ch ch':List (List Value)} {xs ys:List PInst} {ts:List TypeId}
theorem Chs.all(h:Chs w ch xs):∀c∈ch,c.length=4:=fun cs hm=>by
 obtain⟨i,hi,rfl⟩:=List.getElem_of_mem hm;exact(h.2 i _ (xs[i]'(by have:=h.1;omega)) (by simp[hi]) ZS).1
theorem Chs.flat(h:Chs w ch xs):ch.flatten.length=xs.length*4:=by rw[flat4 h.all,h.1]
theorem Chs.kt(h:Chs w ch xs)(hk:KT ts w w')(hi:3∈ts):Chs w' ch xs:=⟨h.1,fun i cs x h1 h2=>⟨(h.2 i cs x h1 h2).1,CIn.kt hk hi (h.2 i cs x h1 h2).2⟩⟩
theorem Chs.take(h:Chs w ch xs)(n:Nat):Chs w (ch.take n) (xs.take n):=by
 refine⟨by rw[List.length_take,List.length_take,h.1],fun i cs x h1 h2=>?_⟩;rw[List.getElem?_take]at h1 h2;split at h1
 · rename_i hk
   rw[if_pos hk]at h2;exact h.2 i cs x h1 h2
 · cases h1
theorem Chs.drop(h:Chs w ch xs)(n:Nat):Chs w (ch.drop n) (xs.drop n):=by
 refine⟨by rw[List.length_drop,List.length_drop,h.1],fun i cs x h1 h2=>?_⟩;rw[List.getElem?_drop]at h1 h2;exact h.2 _ cs x h1 h2
theorem Chs.app(h:Chs w ch xs)(h':Chs w ch' ys):Chs w (ch++ch') (xs++ys):=by
 refine⟨by rw[List.length_append,List.length_append,h.1,h'.1],fun i cs x h1 h2=>?_⟩;have hl:=h.1
 by_cases hi:i<ch.length
 · rw[List.getElem?_append_left hi]at h1
   rw[List.getElem?_append_left ZO]at h2;exact h.2 i cs x h1 h2
 · rw[List.getElem?_append_right ZO]at h1 h2
   rw[hl]at h1;exact h'.2 _ cs x h1 h2
theorem Chs.one{cs:List Value}{x:PInst}(hl:cs.length=4)(h:CIn w cs x):Chs w [cs] [x]:=⟨rfl,fun i c y h1 h2=>by
 cases i with
 |zero=>simp at h1 h2;subst h1 h2;exact⟨hl,h⟩
 |succ i=>simp at h1⟩
theorem Chs.ones(h:Chs w ch xs):∀u∈ch.flatten,u.oneCell'=true:=fun u hu=>by
 obtain⟨cs,hcs,hu⟩:=List.mem_flatten.1 hu;obtain⟨i,hi,rfl⟩:=List.getElem_of_mem hcs;exact one_instI (h.2 i _ (xs[i]'(by have:=h.1;omega)) (by simp[hi]) ZS).2 u hu
end
theorem box_cells{g:Nat}{t:TypeId}:∀(vs:List Value) {w:World} {o:Nat} {cs:Array Value},BoxAt w g cs t→o+vs.length≤cs.size→∃cs':Array Value,BoxAt (w.setCells g o vs) g cs' t∧cs'.size=cs.size∧cs'.toList=cs.toList.take o++vs++cs.toList.drop (o+vs.length)
 |[],w,o,cs,h,_=>⟨cs,h,rfl,ZS⟩
 |v::vs,w,o,cs,h,hl=>by
  simp only[List.length_cons]at hl;obtain⟨cs',h1,h2,h3⟩:=box_cells vs (h.set o v) (o:=o+1) ZX;refine⟨cs',h1,by rw[h2];simp,?_⟩;rw[h3];have ho:o<cs.toList.length:=by simp;omega
  simp only[Array.toList_setIfInBounds];rw[List.take_add_one,List.getElem?_set_self ho,List.take_set_of_le (Nat.le_refl _),List.drop_set_of_lt ZO,List.length_cons,show o+1+vs.length=o+(vs.length+1)from ZO];simp
def IRow(w:World)(base:Nat)(v:Value)(xs:List PInst):Prop:=(v=.slice none 0 0∧xs=[])∨
 ∃g c,∃cur:Array Value,∃ch,v=.slice (some ⟨g,0,none⟩) xs.length c∧base≤g∧BoxAt w g cur 47∧xs.length≤c∧c≤maxLen∧c*4≤cur.size∧Chs w ch xs∧cur.toList.take (xs.length*4)=ch.flatten
section
variable {w w':World} {base B:Nat} {v:Value} {xs ys:List PInst} {ts:List TypeId}
theorem IRow.of_rrow(h:RRow w base 47 4 (CIn w) v xs):IRow w base v xs:=by
 obtain⟨ch,hl,hc,hr⟩:=h;rcases hr.2 with⟨h1,h0⟩|⟨g,cap,cur,hv,hb,hh,hn,hm,hsz,ht⟩
 · exact .inl ⟨h1,List.eq_nil_of_length_eq_zero h0⟩
 · exact .inr ⟨g,cap,cur,ch,hv,hb,hh,hn,hm,ZO,⟨hl,hc⟩,ht⟩
theorem IRow.lt(h:IRow w base v xs){k:Nat}(hk:v.ownBlock=some k):base≤k∧k<w.heap.size:=by
 rcases h with⟨rfl,-⟩|⟨g,c,cur,ch,rfl,hb,hh,-⟩
 · cases hk
 · cases hk
   exact⟨hb,hh.lt⟩
theorem IRow.nt(h:IRow w base v xs){k:Nat}(hk:v.ownBlock=some k):NT [47] w k:=by
 rcases h with⟨rfl,-⟩|⟨g,c,cur,ch,rfl,hb,hh,-⟩
 · cases hk
 · cases hk
   exact⟨_,_,hh,ZS⟩
theorem IRow.form(h:IRow w base v xs):∃A c,v=.slice A xs.length c∧xs.length≤c∧c≤maxLen:=by
 rcases h with⟨rfl,rfl⟩|⟨g,c,cur,ch,rfl,-,-,h1,h2,-⟩
 · exact⟨none,0,rfl,Nat.le_refl _,by unfold maxLen;omega⟩
 · exact⟨_,_,rfl,h1,h2⟩
theorem IRow.turn(h:IRow w base v xs)(hk:∀k,v.ownBlock=some k→w'.heap[k]?=w.heap[k]?)(hi:KT [3] w w'):IRow w' base v xs:=by
 rcases h with h|⟨g,c,cur,ch,rfl,hb,hh,h1,h2,h3,h4,h5⟩
 · exact .inl h
 · exact .inr ⟨g,c,cur,ch,rfl,hb,(hk g rfl).trans hh,h1,h2,h3,h4.kt hi ZS,h5⟩
theorem IRow.kt(h:IRow w base v xs)(hk:KT ts w w')(hn:47∈ts)(hi:3∈ts):IRow w' base v xs:=
 h.turn (fun k e=>hk.blk k ((h.nt e).mono (by simpa using hn))) ⟨hk.size,fun b hb=>hk.blk b (hb.mono (by simpa using hi))⟩
theorem IRow.rebase(h:IRow w base v xs)(hB:B≤base):IRow w B v xs:=by
 rcases h with h|⟨g,c,cur,ch,rfl,hb,r⟩
 · exact .inl h
 · exact .inr ⟨g,c,cur,ch,rfl,Nat.le_trans hB hb,r⟩
theorem IRow.cells(h:IRow w base v xs){i:Nat}(hi:i<xs.length) :
 ∃g c A1 c1,v=.slice (some ⟨g,0,none⟩) xs.length c∧base≤g∧g<w.heap.size∧xs.length≤c∧c≤maxLen∧(∀j,w.frozen? ⟨g,j,none⟩=false)∧(∃cur,BoxAt w g cur 47)∧
  w.cell? ⟨g,i*4,none⟩=some (.int .i64 xs[i].op)∧w.cell? ⟨g,i*4+1,none⟩=some (.int .i64 xs[i].dst)∧w.cell? ⟨g,i*4+2,none⟩=some (.slice A1 xs[i].args.length c1)∧w.cell? ⟨g,i*4+3,none⟩=some (.int .i64 xs[i].num)∧
  DInts w (NT [3] w) (.slice A1 xs[i].args.length c1) xs[i].args:=by
 rcases h with⟨-,rfl⟩|⟨g,c,cur,ch,rfl,hb,hh,h1,h2,h3,h4,h5⟩
 · simp at hi
 · have hci:ch[i]?=some (ch[i]'(by have:=h4.1;omega)):=by simp[h4.1,hi]
   obtain⟨hl,v1,e,hd⟩:=h4.2 i _ xs[i] hci (by simp[hi]);obtain⟨A1,c1,rfl,-⟩:=id hd;have hcell:∀j u,(ch[i]'(by have:=h4.1;omega))[j]?=some u→j<4→w.cell? ⟨g,i*4+j,none⟩=some u:=fun j u hu hj=>by
    have:=flat_at h4.all hci hj;rw[hh.cell,← Array.getElem?_toList,← hu,← this,← h5,List.getElem?_take,if_pos ZO]
   rw[e]at hcell;exact⟨g,c,A1,c1,rfl,hb,hh.lt,h1,h2,fun j=>hh.frozen j,⟨cur,hh⟩,by simpa using hcell 0 _ rfl ZO,hcell 1 _ rfl ZO,hcell 2 _ rfl ZO,hcell 3 _ rfl ZO,hd⟩
theorem IRow.sinsts(h:IRow w base v xs)(hn:xs.length≤1048576):SInsts w w.heap.size v xs:=by
 obtain⟨A,c,rfl,hc,-⟩:=h.form;refine⟨A,c,rfl,by unfold Len;omega,hc,fun i x hx=>?_⟩;obtain⟨hi,rfl⟩:=List.getElem?_eq_some_iff.1 hx;obtain⟨g,c',A1,c1,hv,-,hg,-,-,-,-,k0,k1,k2,k3,hd⟩:=h.cells hi;simp only[Value.slice.injEq,true_and]at hv;obtain⟨rfl,rfl⟩:=hv;exact⟨g,0,rfl,hg,by simpa using k0,by simpa using k1,⟨_,by simpa using k2,hd.rd fun _ h _=>h⟩,by simpa using k3⟩
theorem IRow.cut{A:Option Addr}{n c c' i:Nat}(h:IRow w base (.slice A n c) xs)(hi:i≤xs.length)(h1:i≤c')(h2:c'≤c):IRow w base (.slice A i c') (xs.take i):=by
 rcases h with⟨hv,rfl⟩|⟨g,c0,cur,ch,hv,hb,hh,k1,k2,k3,k4,k5⟩
 · simp only[Value.slice.injEq]at hv
   obtain⟨rfl,rfl,rfl⟩:=hv;simp at hi;subst hi;obtain rfl:c'=0:=by omega
   exact .inl ⟨rfl,rfl⟩
 · simp only[Value.slice.injEq]at hv
   obtain⟨rfl,rfl,rfl⟩:=hv;have hl:(xs.take i).length=i:=by rw[List.length_take];omega
   refine .inr ⟨g,c',cur,ch.take i,by rw[hl],hb,hh,by rw[hl];exact h1,ZO,ZO,k4.take i,?_⟩;rw[hl,← flat_take4 k4.all,← k5,List.take_take,Nat.min_eq_left ZO]
theorem IRow.args{g n c i:Nat}{u:Value}{ag:List Int}(h:IRow w base (.slice (some ⟨g,0,none⟩) n c) xs)(hi:i<xs.length)(hd:DInts w (NT [3] w) u ag) :
 IRow (w.setCell ⟨g,i*4+2,none⟩ u) base (.slice (some ⟨g,0,none⟩) n c) (xs.set i { xs[i]with args:=ag }):=by
 rcases h with⟨hv,-⟩|⟨g0,c0,cur,ch,hv,hb,hh,k1,k2,k3,k4,k5⟩
 · cases hv
 · simp only[Value.slice.injEq,Option.some.injEq,Addr.mk.injEq,and_true]at hv
   obtain⟨rfl,rfl,rfl⟩:=hv;have hk:KT [3] w (w.setCell ⟨g,i*4+2,none⟩ u):=KT.refl.setCell hh ZS _;have hcl:=k4.1;have hci:ch[i]?=some (ch[i]'(ZO)):=List.getElem?_eq_getElem ZO;obtain⟨hl4,v1,e1,-⟩:=k4.2 i _ xs[i] hci (by simp[hi]);have hcur:xs.length*4≤cur.size:=by omega
   refine .inr ⟨g,c,cur.setIfInBounds (i*4+2) u,ch.set i ((ch[i]'(ZO)).set 2 u),by rw[List.length_set],hb,hh.set _ _,by rw[List.length_set];exact k1,k2,by simpa using k3,?_,?_⟩
   · refine⟨by rw[List.length_set,List.length_set,k4.1],fun j cs x h1 h2=>?_⟩
     by_cases hj:i=j
     · subst hj
       rw[List.getElem?_set_self ZO]at h1 h2;cases h1;cases h2;rw[e1];exact⟨rfl,u,rfl,hd.turn (hk.tr ZS)⟩
     · rw[List.getElem?_set_ne hj]at h1 h2
       have:=(k4.kt hk ZS).2 j cs x h1 h2;exact this
   · have hs:(ch.set i ((ch[i]'(ZO)).set 2 u)).flatten=ch.flatten.set (i*4+2) u:=by
      have ha:ch=ch.take i++ch[i]'(ZO)::ch.drop (i+1):=by rw[← List.drop_eq_getElem_cons,List.take_append_drop]
      have hf:(ch.take i).flatten.length=i*4:=by
       rw[flat4 fun c hc=>k4.all c (List.mem_of_mem_take hc),List.length_take];omega
      have e2:ch.flatten=(ch.take i).flatten++(ch[i]'(ZO)++(ch.drop (i+1)).flatten):=by
       conv=>lhs;rw[ha]
       rw[List.flatten_append,List.flatten_cons]
      rw[e2,List.set_append_right _ _ ZO,hf,show i*4+2-i*4=2 from ZO,List.set_append_left _ _ ZO,List.set_eq_take_append_cons_drop,if_pos ZO];rw[List.flatten_append,List.flatten_cons]
     rw[hs,List.length_set,Array.toList_setIfInBounds,← k5,List.take_set]
end
theorem run_append_roomC{P:Program}(w:World)(t ty e:TypeId)(i:TypeInfo)(ht:P.underlying t=some (.slice e))(hi:P.info? e=some i)
 (g sLen sCap:Nat) (cur:Array Value) (hg:BoxAt w g cur e)
 (a:Addr) (m c:Nat) (news:List Value) (hl:news.length=m*i.size) (hnews:∀j u,news[j]?=some u→w.cell? (a.add j)=some u) (h1:∀u∈news,u.oneCell'=true)
 (hroom:sLen+m≤sCap) (hfit:sLen*i.size+news.length≤cur.size) :
 (Builtin.append_ #[t,t] ty #[.slice (some ⟨g,0,none⟩) sLen sCap,.slice (some a) m c]).run P w=.ok (.slice (some ⟨g,0,none⟩) (sLen+m) sCap) (w.setCells g (sLen*i.size) news):=by
 have hf:=run_firstCells_some (P:=P) w i.size m a m c news hl hnews;have hst:=run_storeCells_cells (P:=P) g (sLen*i.size) news 0 w (fun j hj=>by rw[hg.cell];simp;omega) (fun j _=>hg.frozen _) h1;simp only[Nat.add_zero]at hst;simp[Builtin.append_,run_underlying ht,sizeOf,typeInfo,hi,Builtin.lenOf,hroom,hf,Addr.add_lit,hst]
theorem run_copyC{P:Program}(w:World)(t ty e:TypeId)(i:TypeInfo)(ht:P.underlying t=some (.slice e))(hi:P.info? e=some i)(g o dLen dCap:Nat)(cur:Array Value)(hg:BoxAt w g cur e)(a:Addr)(sLen sCap:Nat)(cs:List Value)
 (hn:cs.length=Nat.min sLen dLen*i.size) (hsrc:∀j v,cs[j]?=some v→w.cell? (a.add j)=some v) (hfit:o+cs.length≤cur.size) (h1:∀v∈cs,v.oneCell'=true) :
 (Builtin.copy_ #[t,t] ty #[.slice (some ⟨g,o,none⟩) dLen dCap,.slice (some a) sLen sCap]).run P w=.ok (goInt (Nat.min sLen dLen)) (w.setCells g o cs):=by
 have hf:=run_firstCells_some (P:=P) w i.size (Nat.min sLen dLen) a sLen sCap cs hn hsrc;have hst:=run_storeCells_cells (P:=P) g o cs 0 w (fun j hj=>by rw[hg.cell];simp;omega) (fun j _=>hg.frozen _) h1;simp only[Nat.add_zero]at hst;simp[Builtin.copy_,run_underlying ht,Builtin.lenOf,sizeOf,typeInfo,hi,hf,hst]
section
variable {w:World} {base g n c:Nat} {cur:Array Value} {ch:List (List Value)} {xs:List PInst}
theorem IRow.del{c0:Nat}{Z:List Value}(hb:base≤g)(hh:BoxAt w g cur 47)(k1:xs.length≤c)(k2:c≤maxLen)(k3:c*4≤cur.size)(k4:Chs w ch xs)(k5:cur.toList.take (xs.length*4)=ch.flatten)(hc:c0<xs.length)(hZ:Z.length=4) :
 IRow ((w.setCells g (c0*4) (ch.drop (c0+1)).flatten).setCells g ((xs.length-1)*4) Z) base (.slice (some ⟨g,0,none⟩) (xs.length-1) c) (xs.take c0++xs.drop (c0+1)):=by
 have hcl:=k4.1;have hd:=(k4.drop (c0+1)).flat;rw[List.length_drop]at hd;obtain⟨cs1,b1,s1,e1⟩:=box_cells (ch.drop (c0+1)).flatten hh (o:=c0*4) ZO;obtain⟨cs2,b2,s2,e2⟩:=box_cells Z b1 (o:=(xs.length-1)*4) ZO;have hkt:KT [3] w ((w.setCells g (c0*4) (ch.drop (c0+1)).flatten).setCells g ((xs.length-1)*4) Z):=KT.setCells (t:=47) ZS _ (KT.setCells (t:=47) ZS _ KT.refl hh) b1;have hl:(xs.take c0++xs.drop (c0+1)).length=xs.length-1:=by rw[List.length_append,List.length_take,List.length_drop];omega
 refine .inr ⟨g,c,cs2,ch.take c0++ch.drop (c0+1),by rw[hl],hb,b2,ZO,k2,ZO,((k4.take c0).app (k4.drop (c0+1))).kt hkt ZS,?_⟩;have ht1:cur.toList.take (c0*4)=(ch.take c0).flatten:=by rw[← flat_take4 k4.all,← k5,List.take_take,Nat.min_eq_left ZO]
 have hlt:((ch.take c0).flatten).length=c0*4:=by
  have:=(k4.take c0).flat;rw[List.length_take]at this;omega
 have hlc:cur.toList.length=cur.size:=by simp
 have hl1:cs1.toList.length=cur.size:=by simp[s1]
 rw[hl,e2,List.append_assoc,List.take_append_of_le_length (by rw[List.length_take,hl1];omega),List.take_take,Nat.min_self,e1,ht1,List.flatten_append];exact List.take_left' (by rw[List.length_append,hlt,hd];omega)
theorem IRow.ins{i:Nat}{m:PInst}{cs:List Value}(hb:base≤g)(hh:BoxAt w g cur 47)(k1:xs.length+1≤c)(k2:c≤maxLen)(k3:c*4≤cur.size)(k4:Chs w ch xs)(k5:cur.toList.take (xs.length*4)=ch.flatten)(hi:i≤xs.length)(hl:cs.length=4)(hm:CIn w cs m) :
 IRow ((w.setCells g ((i+1)*4) (ch.drop i).flatten).setCells g (i*4) cs) base (.slice (some ⟨g,0,none⟩) (xs.length+1) c) (xs.take i++m::xs.drop i):=by
 have hcl:=k4.1;have hd:=(k4.drop i).flat;rw[List.length_drop]at hd;obtain⟨cs1,b1,s1,e1⟩:=box_cells (ch.drop i).flatten hh (o:=(i+1)*4) ZO;obtain⟨cs2,b2,s2,e2⟩:=box_cells cs b1 (o:=i*4) ZO;have hkt:KT [3] w ((w.setCells g ((i+1)*4) (ch.drop i).flatten).setCells g (i*4) cs):=KT.setCells (t:=47) ZS _ (KT.setCells (t:=47) ZS _ KT.refl hh) b1;have hl2:(xs.take i++m::xs.drop i).length=xs.length+1:=by rw[List.length_append,List.length_take,List.length_cons,List.length_drop];omega
 refine .inr ⟨g,c,cs2,ch.take i++([cs]++ch.drop i),by rw[hl2],hb,b2,ZO,k2,ZO,((k4.take i).app ((Chs.one hl hm).app (k4.drop i))).kt hkt ZS,?_⟩;have ht1:cur.toList.take (i*4)=(ch.take i).flatten:=by rw[← flat_take4 k4.all,← k5,List.take_take,Nat.min_eq_left ZO]
 have hlt:((ch.take i).flatten).length=i*4:=by
  have:=(k4.take i).flat;rw[List.length_take]at this;omega
 have hlc:cur.toList.length=cur.size:=by simp
 have hl1:(cur.toList.take ((i+1)*4)).length=(i+1)*4:=by rw[List.length_take,hlc];omega
 rw[hl2,e2,e1,hl];have e3:(cur.toList.take ((i+1)*4)++(ch.drop i).flatten++cur.toList.drop ((i+1)*4+(ch.drop i).flatten.length)).take (i*4)=(ch.take i).flatten:=by
  rw[List.append_assoc,List.take_append_of_le_length ZO,List.take_take,Nat.min_eq_left ZO,ht1]
 have e4:(cur.toList.take ((i+1)*4)++(ch.drop i).flatten++cur.toList.drop ((i+1)*4+(ch.drop i).flatten.length)).drop (i*4+4)=(ch.drop i).flatten++cur.toList.drop ((i+1)*4+(ch.drop i).flatten.length):=by
  rw[List.append_assoc];exact List.drop_left' ZO
 rw[e3,e4,List.flatten_append,List.flatten_append];have e5:(ch.take i).flatten++cs++((ch.drop i).flatten++cur.toList.drop ((i+1)*4+(ch.drop i).flatten.length))=((ch.take i).flatten++([cs].flatten++(ch.drop i).flatten))++cur.toList.drop ((i+1)*4+(ch.drop i).flatten.length):=by simp
 rw[e5];exact List.take_left' (by simp only[List.length_append,List.flatten_cons,List.flatten_nil,List.append_nil];omega)
end
end Go.Proofs.YtlhhfcleioikoaaGreatDoor
namespace Go.Proofs.YtlhhfcleioikoaaGreatDoor
open Go.RowKit Go.WideMaps Go.Maps
set_option maxRecDepth 100000
def KRow(w0 w:World)(v0:Value)(at1:Nat)(xs:List PInst)(v:Value)(ys:List PInst):Prop:=
 (∃A n c,v0=.slice A n c∧v=.slice A at1 at1∧ys=xs.take at1)∨RRow w w0.heap.size 47 4 (CInst w (NT [3] w0)) v ys
section
variable {w0 w w':World} {v0 v:Value} {at1 base:Nat} {xs ys:List PInst}
theorem tr0(hb:Below w0.heap.size w w'):Tr (NT [3] w0) (NT [3] w0) w w':=⟨hb.size,fun b h _=>⟨hb.block b h.lt,h⟩⟩
theorem KRow.turn(h:KRow w0 w v0 at1 xs v ys)(hk:∀k,v.ownBlock=some k→w'.heap[k]?=w.heap[k]?)(hb:Below w0.heap.size w w'):KRow w0 w' v0 at1 xs v ys:=by
 rcases h with h|h
 · exact .inl h
 · exact .inr (RRow.turn h hk fun _ _ h=>h.turn (tr0 hb))
theorem KRow.below(h:KRow w0 w v0 at1 xs v ys)(hb:Below w.heap.size w w')(h0:w0.heap.size≤w.heap.size):KRow w0 w' v0 at1 xs v ys:=by
 rcases h with h|h
 · exact .inl h
 · exact .inr (h.move hb fun _ _ h=>h.turn (tr0 (hb.mono h0)))
theorem KRow.nt(h:KRow w0 w v0 at1 xs v ys)(h0:IRow w base v0 xs){k:Nat}(hk:v.ownBlock=some k):NT [47] w k:=by
 rcases h with⟨A,n,c,rfl,rfl,rfl⟩|h
 · exact h0.nt (by cases A<;>simp[Value.ownBlock]at hk ⊢;exact hk)
 · obtain⟨cells,ho⟩:=h.own
   exact own_nt ho ZS k (own_lt ho hk).1 hk
theorem KRow.irow(h:KRow w0 w v0 at1 xs v ys)(h0:IRow w base v0 xs)(hb:base≤w0.heap.size)(ha:at1≤xs.length)(h1:Below w0.heap.size w0 w):IRow w base v ys:=by
 rcases h with⟨A,n,c,rfl,rfl,rfl⟩|h
 · obtain⟨A',c',e,h1,-⟩:=h0.form
   simp only[Value.slice.injEq]at e;obtain⟨-,-,rfl⟩:=e;exact h0.cut ha (Nat.le_refl _) ZO
 · have hkt:KT [3] w0 w:=KT.of_below h1
   exact(IRow.of_rrow (h.imp (C':=CIn w) fun _ _ h=>h.turn ⟨Nat.le_refl _,fun b hb _=>⟨rfl,hb.same (hkt.blk b hb)⟩⟩)).rebase hb
theorem KRow.own(h:KRow w0 w v0 at1 xs v ys){k:Nat}(hk:v.ownBlock=some k):v0.ownBlock=some k∨w0.heap.size≤k:=by
 rcases h with⟨A,n,c,rfl,rfl,rfl⟩|h
 · exact .inl (by cases A<;>simp[Value.ownBlock]at hk ⊢;exact hk)
 · exact .inr (h.lt hk).1
theorem KRow.form(h:KRow w0 w v0 at1 xs v ys)(ha:at1≤xs.length):∃A c,v=.slice A ys.length c:=by
 rcases h with⟨A,n,c,rfl,rfl,rfl⟩|h
 · exact⟨A,at1,by rw[List.length_take,Nat.min_eq_left ha]⟩
 · exact h.form
theorem KRow.snoc{N:Nat}{y:PInst}{cs:List Value}(h:KRow w0 w v0 at1 xs v ys)(h0:IRow w0 base v0 xs)(hb:w0.heap.size≤w.heap.size)(ha:at1≤xs.length)(hp:0<at1)(hbx:BoxAt w N cs.toArray 47)(hl:cs.length=4)(hy:CInst w (NT [3] w0) cs y)(hn:ys.length<1048576)(h9:Below w0.heap.size w0 w)(ty:TypeId) :
 ∃A c w',(Builtin.append_ #[36,36] ty #[v,.slice (some ⟨N,0,none⟩) 1 1]).run Tryz.prog w=.ok (.slice A (ys.length+1) c) w'∧KRow w0 w' v0 at1 xs (.slice A (ys.length+1) c) (ys++[y])∧Below w0.heap.size w w'∧KT [3] w w':=by
 obtain⟨i,hi,hz,hsz,hby⟩:=info_parts Tryz.info47;have hcell:∀j u,cs[j]?=some u→w.cell? ((⟨N,0,none⟩:Addr).add j)=some u:=fun j u hj=>by
  rw[Addr.add_lit,Nat.zero_add,hbx.cell];simpa using hj
 have h1:=one_instI hy;rcases h with⟨A,n,c,rfl,rfl,rfl⟩|h
 · rcases h0 with⟨-,rfl⟩|⟨g,c0,cur,ch,hv,hbg,hh,k1,k2,k3,k4,k5⟩
   · simp at ha
     omega
   · simp only[Value.slice.injEq]at hv
     obtain⟨rfl,rfl,rfl⟩:=hv;replace hh:=hh.below h9 hh.lt;have hlt:(xs.take at1).length=at1:=by rw[List.length_take];omega
     rw[hlt]at hn ⊢;have hk4:=k4.take at1;have hfl:=hk4.flat;rw[hlt]at hfl;have ht1:cur.toList.take (at1*4)=(ch.take at1).flatten:=by rw[← flat_take4 k4.all,← k5,List.take_take,Nat.min_eq_left ZO]
     have hr:=run_append_grow (P:=Tryz.prog) w 36 ty 47 i _ Tryz.underlying36 hi hz ⟨g,0,none⟩ at1 at1 (ch.take at1).flatten (by rw[hfl,hsz]) (fun j u hj=>by
      rw[Addr.add_lit,Nat.zero_add,hh.cell,← Array.getElem?_toList];have hj4:=(List.getElem?_eq_some_iff.1 hj).1;rw[← ht1,List.getElem?_take,if_pos ZO]at hj
      exact hj) ⟨N,0,none⟩ 1 1 cs (by rw[hl,hsz]) hcell ZO ZO (growslice_fits ZO (by rw[hby];omega))
     have hbl:Below w0.heap.size w (w.drew.alloc (.cells ((ch.take at1).flatten.toArray++cs.toArray++Builtin.zeroCells (Value.agg #[.int .i64 0,.int .i64 0,.slice none 0 0,.int .i64 0]).cells (grownCap w (at1+1) at1 47-(at1+1))) 47)):=(Below.refl _ _).drew.alloc (by simpa using hb) _;refine⟨_,_,_,hr,.inr ?_,hbl,KT.refl.drew.alloc _⟩;refine⟨ch.take at1++[cs],by rw[List.length_append,List.length_append,hk4.1];rfl,fun j c x e1 e2=>?_,?_⟩
     · by_cases hj:j<(ch.take at1).length
       · rw[List.getElem?_append_left hj]at e1
         rw[List.getElem?_append_left (by rw[← hk4.1];exact hj)]at e2;exact⟨(hk4.2 j c x e1 e2).1,(hk4.2 j c x e1 e2).2.turn (tr0 (h9.trans hbl))⟩
       · rw[List.getElem?_append_right ZO]at e1
         rw[List.getElem?_append_right (by rw[← hk4.1];omega),← hk4.1]at e2;obtain⟨n,hn⟩:∃n,j-(ch.take at1).length=n:=⟨_,rfl⟩;rw[hn]at e1 e2;cases n with
         |zero=>simp at e1 e2;subst e1 e2;exact⟨hl,hy.turn (tr0 hbl)⟩
         |succ n=>simp at e1
     · rw[List.length_append,hlt,List.flatten_append,show [cs].flatten=cs from ZS,show([y]:List PInst).length=1 from rfl]
       refine⟨by rw[List.length_append,hfl,hl];omega,.inr ⟨w.heap.size,grownCap w (at1+1) at1 47,_,rfl,hb,heap_alloc_new w.drew _,grownCap_ge w (at1+1) at1 47,grownCap_le_maxLen w (at1+1) at1 47 (by unfold maxLen;omega),?_,?_⟩⟩
       · have hge:=grownCap_ge w (at1+1) at1 47
         simp only[Array.size_append,List.size_toArray,size_zeroCells,hfl,hl,show(Value.agg #[.int .i64 0,.int .i64 0,.slice none 0 0,.int .i64 0]).cells.size=4 from rfl];omega
       · simp only[Array.toList_append,List.append_assoc]
         rw[← List.append_assoc];exact List.take_left' (by rw[List.length_append,hfl,hl];omega)
 · obtain⟨cells,ho⟩:=h.own
   obtain⟨v',w',hr,h2,h3,-,h4⟩:=run_append_own_at (P:=Tryz.prog) w w0.heap.size 36 ty 47 i _ 4 48 Tryz.underlying36 hi hz hsz hby rfl ZD v ys.length cells ho ⟨N,0,none⟩ 1 1 cs (by rw[hl]) hcell h1 (by unfold maxLen;omega) ZO hb;obtain⟨A,c,rfl⟩:=own_form h2;have hkt:KT [3] w w':=KT.refl.grown ho ZS h3;have hbl:Below w0.heap.size w w':=⟨h3.os,h3.tape,h3.output,h3.size,fun k hk=>h3.block k ZO (fun e=>by have:=(own_lt ho e.symm).1;omega)⟩;exact⟨A,c,w',hr,.inr (h.snoc ho h2 hl (fun _ _ h=>h.turn (tr0 hbl)) (hy.turn (tr0 hbl))),hbl,hkt⟩
end
def KM(w:World)(gm n:Nat)(k:Int→Option Int):Prop:=∃D:DataW Unit,w.ownsMap Tryz.prog 3 (plainElem Tryz.prog 2) gm n D∧Maps.IsMap D∧
 ∀v:Int,(Lit.int .i64 v).wf=true→Maps.has D (.int .i64 v)=(k v).isSome∧D.atKey (.int .i64 v) (.lit (.int .i64 0))=.lit (.int .i64 ((k v).getD 0))
theorem KM.turn{w w':World}{gm n:Nat}{k:Int→Option Int}(h:KM w gm n k)(hg:w'.heap[gm]?=w.heap[gm]?):KM w' gm n k:=by
 obtain⟨D,⟨es,clock,hb,r⟩,h2⟩:=h;exact⟨D,⟨es,clock,hg.trans hb,r⟩,h2⟩
theorem KM.lt{w:World}{gm n:Nat}{k:Int→Option Int}(h:KM w gm n k):gm<w.heap.size:=by
 obtain⟨D,h1,-⟩:=h;exact h1.lt
theorem KM.ne{w:World}{gm n g:Nat}{k:Int→Option Int}{cs:Array Value}{t:TypeId}(h:KM w gm n k)(hb:BoxAt w g cs t):gm≠g:=by
 rintro rfl;obtain⟨D,⟨es,clock,h1,-⟩,-⟩:=h;unfold BoxAt at hb;rw[h1]at hb;cases hb
theorem lawKI:Maps.Keyed Tryz.prog 3:=int_keyed Tryz.underlying3
theorem zeroI64(w:World):(zeroValue 2).run Tryz.prog w=.ok (.int .i64 0) w:=by kernel_rfl
theorem keyI{v:Int}(h:(Lit.int .i64 v).wf=true):keyOf Tryz.prog 3 (.int .i64 v)=some (.int .i64 v):=keyOf_int_mk Tryz.underlying3 h
theorem KM.made(w:World):KM (w.alloc (.map #[] 0)) w.heap.size 0 (fun _=>none):=⟨.map [],World.ownsMap_made _ _ _ _,⟨_,rfl⟩,fun _ _=>⟨rfl,rfl⟩⟩
theorem KM.look{w:World}{gm n:Nat}{k:Int→Option Int}(h:KM w gm n k){v:Int}(hv:(Lit.int .i64 v).wf=true) :
 (Instr.lookup 69 (.map (some gm)) (.int .i64 v) true).run Tryz.prog w=.ok (.tuple #[.int .i64 ((k v).getD 0),.bool (k v).isSome]) w:=by
 obtain⟨D,h1,-,h2⟩:=h;obtain⟨u,ps,hrun,hu⟩:=h1.look_ok lawKI Tryz.underlying69 (zeroI64 _) (plainElem_int Tryz.underlying2 ZD) (keyI hv);obtain⟨c,rfl,hc,-⟩:=plainElem_int_inv Tryz.underlying2 hu;obtain⟨e1,e2⟩:=h2 v hv;rw[e2]at hc;simp only[Prod.mk.injEq,DataW.lit.injEq,Lit.int.injEq,true_and]at hc;rw[hrun,e1,hc.1]
theorem wpList_kput(w:World){ops:Array Oper}{rest:List Oper}{o:Oper}{a:Act}{Q:Exit→Act→World→Prop}
 (hg:o.guard=none) (m x v:Operand) (hop:o.op=Op.mapUpdate 69 m x v) {gm n:Nat} {k:Int→Option Int} (hm:a.eval m=.map (some gm)) (h:KM w gm n k) (hn:n<maxLen)
 (d:Int) (hd:(Lit.int .i64 d).wf=true) (hx:a.eval x=.int .i64 d) (c:Int) (hv:a.eval v=.int .i64 c) (hc:(Lit.int .i64 c).wf=true)
 (hK:∀w',KM w' gm (n+1) (fun t=>if t=d then some c else k t)→w.grownBy w' (some gm)→wpList Tryz.prog ops Q rest (a.put o.dst undef) w'):wpList Tryz.prog ops Q (o::rest) a w:=by
 obtain⟨D,h1,h2,h3⟩:=h;refine wpList_mapUpdate_own w hg m x v 69 hop 3 2 lawKI Tryz.underlying69 _ gm n D hm h1 hn _ _ _ hx hv (keyI hd) _ [] (plainElem_int Tryz.underlying2 hc) ?_;intro w' h4 hg';refine hK w' ⟨_,h4,Maps.IsMap.put h2 _ _,fun t ht=>?_⟩ hg'
 by_cases e:t=d
 · subst e
   show _=(if t=t then some c else k t).isSome∧_=DataW.lit (.int .i64 ((if t=t then some c else k t).getD 0));rw[if_pos rfl];exact⟨Maps.has_put_same h2 (lawKI.key (keyI ht)) _,Maps.atKey_put_same h2 (lawKI.key (keyI ht)) _ _⟩
 · show _=(if t=d then some c else k t).isSome∧_=DataW.lit (.int .i64 ((if t=d then some c else k t).getD 0))
   have hne:(Lit.int .i64 t)≠Lit.int .i64 d:=fun e2=>e (by injection e2)
   rw[if_neg e,Maps.has_put_other hne,Maps.atKey_put_other hne];exact h3 t ht
theorem wpList_mapLk(w:World){ops:Array Oper}{rest:List Oper}{o:Oper}{a:Act}{Q:Exit→Act→World→Prop}(hg:o.guard=none)(m x:Operand)(t:TypeId)(c:Bool)(hop:o.op=Op.lookup t m x c){b:Nat}
 {key r:Value} (hm:a.eval m=.map (some b)) (hx:a.eval x=key) (hrun:(Instr.lookup t (.map (some b)) key c).run Tryz.prog w=.ok r w) (h:wpList Tryz.prog ops Q rest (a.put o.dst r) w):wpList Tryz.prog ops Q (o::rest) a w:=by
 refine wpList_plain hg fun K hK=>?_
 unfold Oper.wp;simp[execOp,hop,hm,hx,hrun,Result.andThen];exact hK _ _ h
def CBI(w:World)(base:Nat)(cs:List Value)(x:PBlock×Value×Value):Prop:=
 cs=[.string x.1.name,x.2.1,x.2.2,.int .i64 x.1.term.kind,.int .i64 x.1.term.var,.int .i64 x.1.term.t0,.int .i64 x.1.term.t1]∧x.1.name.size≤maxLen∧
  RRow w base 66 3 (CPh w) x.2.1 x.1.phis∧IRow w base x.2.2 x.1.insts
theorem CBI.kt{ts:List TypeId}{w w':World}{base:Nat}(hk:KT ts w w')(hi:3∈ts)(hp:66∈ts)(hn:47∈ts){cs:List Value}{x:PBlock×Value×Value}(h:CBI w base cs x):CBI w' base cs x:=
 ⟨h.1,h.2.1,h.2.2.1.kt hk hp fun _ _ h=>h.kt hk hi,h.2.2.2.kt hk hn hi⟩
structure MgM (F:PFunc) (k:Int→Option Int) (w:World) (base gw gb cap gm:Nat) (vv vp:Value) (qs:List (PBlock×Value×Value)):Prop where
 box:BoxAt w gw #[vv,vp,.slice (some ⟨gb,0,none⟩) qs.length cap,.map (some gm)] 71
 hV:RRow w base 52 2 CVar vv F.vars
 hI:w.ownsRow base 3 1 vp F.params.length (F.params.map (Value.int .i64))
 hq:RRow w base 42 7 (CBI w base) (.slice (some ⟨gb,0,none⟩) qs.length cap) qs
 pw:qs.Pairwise fun x y=>Apart x.2.2 y.2.2
 km:∃n,KM w gm n k
section
variable {F:PFunc} {k:Int→Option Int} {w w':World} {base gw gb cap gm i:Nat} {vv vp:Value} {qs:List (PBlock×Value×Value)} {b:PBlock} {v1 v2:Value}
theorem MgM.below(h:MgM F k w base gw gb cap gm vv vp qs)(hb:Below w.heap.size w w'):MgM F k w' base gw gb cap gm vv vp qs:=by
 have hk:KT [3,66,47,42,52] w w':=KT.of_below hb;obtain⟨n,hm⟩:=h.km;exact⟨h.box.below hb h.box.lt,h.hV.move hb (fun _ _ h=>h),own_below h.hI hb,h.hq.kt hk ZS (fun _ _ h=>CBI.kt hk ZS ZS ZS h),h.pw,n,hm.turn (hb.block gm hm.lt)⟩
theorem MgM.rows(h:MgM F k w base gw gb cap gm vv vp qs)(hi:qs[i]?=some (b,v1,v2)):IRow w base v2 b.insts∧gb<w.heap.size∧base≤gb∧(∃cur,BoxAt w gb cur 42)∧
 w.cell? ⟨gb,i*7,none⟩=some (.string b.name)∧w.cell? ⟨gb,i*7+1,none⟩=some v1∧w.cell? ⟨gb,i*7+2,none⟩=some v2∧w.cell? ⟨gb,i*7+3,none⟩=some (.int .i64 b.term.kind)∧w.cell? ⟨gb,i*7+4,none⟩=some (.int .i64 b.term.var)∧w.cell? ⟨gb,i*7+5,none⟩=some (.int .i64 b.term.t0)∧w.cell? ⟨gb,i*7+6,none⟩=some (.int .i64 b.term.t1):=by
 obtain⟨hl,he⟩:=List.getElem?_eq_some_iff.1 hi;obtain⟨g',cap',cs,hv,-,hb,hgl,-,-,hc,e1,-,h1,h2⟩:=h.hq.cells hl;simp only[Value.slice.injEq,Option.some.injEq,Addr.mk.injEq,and_true]at hv;obtain⟨rfl,-,rfl⟩:=hv;rw[he]at e1 h1 h2;obtain⟨cells,hO⟩:=h.hq.own;subst e1;exact⟨h2,hgl,hb,own_box hO,by simpa using hc 0 _ rfl,hc 1 _ rfl,hc 2 _ rfl,hc 3 _ rfl,hc 4 _ rfl,hc 5 _ rfl,hc 6 _ rfl⟩
theorem apart_set{q q':PBlock×Value×Value}{N:Nat}(h:qs.Pairwise fun x y=>Apart x.2.2 y.2.2)(hq:qs[i]?=some q)(hN:∀x∈qs,∀k,x.2.2.ownBlock=some k→k<N)(ho:∀k,q'.2.2.ownBlock=some k→q.2.2.ownBlock=some k∨N≤k):(qs.set i q').Pairwise fun x y=>Apart x.2.2 y.2.2:=by
 obtain⟨hl,he⟩:=List.getElem?_eq_some_iff.1 hq;rw[List.pairwise_iff_getElem]at h ⊢;intro a c ha hc hac;simp only[List.length_set]at ha hc;have h0:=h a c ha hc hac;intro k h1 h2;rw[List.getElem_set]at h1 h2;split at h1
 · rename_i e
   rw[if_neg ZO]at h2;rcases ho k h1 with e2|e2
   · subst e
     rw[← he]at e2;exact h0 k e2 h2
   · have:=hN _ (List.getElem_mem hc) k h2
     omega
 · split at h2
   · rename_i e
     rcases ho k h2 with e2|e2
     · subst e
       rw[← he]at e2;exact h0 k h1 e2
     · have:=hN _ (List.getElem_mem ha) k h1
       omega
   · exact h0 k h1 h2
theorem MgM.turn(h:MgM F k w base gw gb cap gm vv vp qs)(hi:qs[i]?=some (b,v1,v2)){ys:List PInst}(hk:Kp (fun c=>v2.ownBlock≠some c) w w')(hr:IRow w' base v2 ys):MgM F k w' base gw gb cap gm vv vp (qs.set i ({ b with insts:=ys },v1,v2)):=by
 obtain⟨hR2,-⟩:=h.rows hi;obtain⟨hl,he⟩:=List.getElem?_eq_some_iff.1 hi;have hne:∀c,NT [3,66,42,52,71] w c→v2.ownBlock≠some c:=fun c hc e=>by
  obtain⟨cs1,t1,a1,a2⟩:=hR2.nt e;obtain⟨cs2,t2,b1,b2⟩:=hc;rw[a1]at b1;cases b1;simp at a2;subst a2;simp at b2
 have hkt:KT [3,66,42,52,71] w w':=⟨hk.size,fun c hc=>hk.blk c (hne c hc) hc.lt⟩;have hki:KT [3] w w':=⟨hkt.size,fun c hc=>hkt.blk c (hc.mono ZS)⟩;obtain⟨n,hm⟩:=h.km;have hgm:v2.ownBlock≠some gm:=fun e=>by
  obtain⟨cs1,t1,a1,-⟩:=hR2.nt e;exact hm.ne a1 rfl
 refine⟨?_,h.hV.kt hkt ZS (fun _ _ h=>h),own_kt h.hI hkt ZS,?_,?_,n,hm.turn (hk.blk gm hgm hm.lt)⟩
 · rw[List.length_set]
   exact(hkt.blk gw ⟨_,_,h.box,ZS⟩).trans h.box
 · rw[List.length_set]
   obtain⟨cells,hO⟩:=h.hq.own;obtain⟨ch,hcl,hc,hown⟩:=h.hq;refine⟨ch,by rw[List.length_set];exact hcl,fun j cs x e1 e2=>?_,by rw[List.length_set];exact own_kt hown hkt ZS⟩
   by_cases hj:i=j
   · subst hj
     rw[List.getElem?_set_self hl]at e2;cases e2;obtain⟨s1,s2,s3,s4,s5⟩:=hc i cs _ e1 hi;exact⟨s1,s2,s3,s4.kt hkt ZS (fun _ _ h=>h.kt hkt ZS),hr⟩
   · rw[List.getElem?_set_ne hj]at e2
     obtain⟨s1,s2,s3,s4,s5⟩:=hc j cs x e1 e2;refine⟨s1,s2,s3,s4.kt hkt ZS (fun _ _ h=>h.kt hkt ZS),s5.turn (fun c ec=>hk.blk c (fun e=>?_) (s5.lt ec).2) hki⟩;obtain⟨hjl,hje⟩:=List.getElem?_eq_some_iff.1 e2;have hp:=List.pairwise_iff_getElem.1 h.pw;rcases Nat.lt_or_gt_of_ne hj with hlt|hlt
     · have:=hp i j hl hjl hlt
       rw[he,hje]at this;exact this c e ec
     · have:=hp j i hjl hl hlt
       rw[he,hje]at this;exact this c ec e
 · refine apart_set (N:=w.heap.size) h.pw hi (fun x hx k hk=>?_) (fun k hk=>.inl hk)
   obtain⟨cs,hc⟩:=h.hq.all_ x hx;exact(hc.2.2.2.lt hk).2
theorem MgM.setI(h:MgM F k w base gw gb cap gm vv vp qs)(hi:qs[i]?=some (b,v1,v2)){ys:List PInst}{v':Value}{N:Nat}(hr:IRow w base v' ys)(hN:∀x∈qs,∀k,x.2.2.ownBlock=some k→k<N)(ho:∀k,v'.ownBlock=some k→v2.ownBlock=some k∨N≤k) :
 MgM F k (w.setCell ⟨gb,i*7+2,none⟩ v') base gw gb cap gm vv vp (qs.set i ({ b with insts:=ys },v1,v')):=by
 obtain⟨hl,he⟩:=List.getElem?_eq_some_iff.1 hi;obtain⟨cells,hO⟩:=h.hq.own;obtain⟨cur,hbg⟩:=own_box hO;have hks:KT [3,66,47,52,71] w (w.setCell ⟨gb,i*7+2,none⟩ v'):=KT.refl.setCell hbg ZS _;obtain⟨n,hm⟩:=h.km;refine⟨?_,h.hV.kt hks ZS (fun _ _ h=>h),own_kt h.hI hks ZS,?_,apart_set h.pw hi hN ho,n,hm.turn (heap_set (hm.ne hbg))⟩
 · rw[List.length_set]
   exact(hks.blk gw ⟨_,_,h.box,ZS⟩).trans h.box
 · rw[List.length_set]
   refine RRow.putJ h.hq hl ZD (fun k cs x hne hx hc=>?_) fun cs hc=>?_
   · exact CBI.kt hks ZS ZS ZS hc
   · rw[he]at hc
     obtain⟨e1,e2,e3,-⟩:=hc;rw[e1];exact⟨rfl,e2,e3.kt hks ZS (fun _ _ h=>h.kt hks ZS),hr.kt hks ZS ZS⟩
theorem MgM.bound(h:MgM F k w base gw gb cap gm vv vp qs):∀x∈qs,∀k,x.2.2.ownBlock=some k→k<w.heap.size:=fun x hx k hk=>by
 obtain⟨cs,hc⟩:=h.hq.all_ x hx;exact(hc.2.2.2.lt hk).2
end
end Go.Proofs.YtlhhfcleioikoaaGreatDoor
namespace Go.Proofs.YtlhhfcleioikoaaGreatDoor
open Go.RowKit
set_option maxRecDepth 100000
def kstep(k:Int→Option Int)(x:PInst):Int→Option Int:=if x.op=0 then fun t=>if t=x.dst then some x.num else k t else k
def kBlk(k:Int→Option Int)(b:PBlock):Int→Option Int:=b.insts.foldl kstep k
def kF(F:PFunc):Int→Option Int:=F.blocks.foldl kBlk fun _=>none
def kAt(F:PFunc)(i j:Nat):Int→Option Int:=((F.blk i).insts.take j).foldl kstep ((F.blocks.take i).foldl kBlk fun _=>none)
def mrgB(k:Int→Option Int)(b:PBlock):PBlock:={ b with insts:=mrgL k b.insts }
def mrgF(F:PFunc):PFunc:={ F with blocks:=F.blocks.map (mrgB (kF F)) }
section
variable {F:PFunc} {k:Int→Option Int} {i j:Nat}
theorem kAt_zero:kAt F 0 0=fun _=>none:=rfl
theorem kAt_step(hj:j<(F.blk i).insts.length):kAt F i (j+1)=kstep (kAt F i j) ((F.blk i).inst j):=by
 unfold kAt;rw[List.take_add_one,PBlock.inst_get hj,List.foldl_append];rfl
theorem kAt_next(hi:i<F.blocks.length):kAt F i (F.blk i).insts.length=kAt F (i+1) 0:=by
 unfold kAt;rw[List.take_length,List.take_zero,List.take_add_one,PFunc.blk_get hi,List.foldl_append];rfl
theorem kAt_end:kAt F F.blocks.length 0=kF F:=by
 unfold kAt kF;rw[List.take_zero,List.take_length];rfl
theorem mrgL_len:∀{n:Nat} {l:List PInst},l.length≤n→(mrgL k l).length≤l.length
 |_,[],_=>by simp[mrgL_nil]
 |0,x::l,h=>by simp at h
 |n+1,x::l,h=>by
  have h1:=mrgS_len (k:=k) (x:=x) (l:=l);simp only[List.length_cons]at h ⊢;have h2:=mrgL_len (n:=n) (l:=(mrgS k x l).2) ZO;rw[mrgL_cons,List.length_append];omega
theorem mrgL_mem:∀{n:Nat} {l:List PInst} {m:PInst},l.length≤n→m∈mrgL k l→m∈l∨∃a v,m=chk a v
 |_,[],m,_,h=>by simp[mrgL_nil]at h
 |0,x::l,m,h,_=>by simp at h
 |n+1,x::l,m,h,hm=>by
  have h1:=mrgS_len (k:=k) (x:=x) (l:=l);simp only[List.length_cons]at h;rw[mrgL_cons]at hm;have hS:m∈(mrgS k x l).1++(mrgS k x l).2→m∈x::l∨∃a v,m=chk a v:=fun h=>by
   rcases mrgS_mem h with rfl|h|⟨b,_,rfl⟩
   · exact .inl ZS
   · exact .inl (by simp[h])
   · exact .inr ⟨_,_,rfl⟩
  rcases List.mem_append.1 hm with h2|h2
  · exact hS (List.mem_append_left _ h2)
  · rcases mrgL_mem (n:=n) ZO h2 with h3|h3
    · exact hS (List.mem_append_right _ h3)
    · exact .inr h3
theorem mrg_bnd(h:Bnd F):Bnd (mrgF F):=by
 have hb:∀b∈(mrgF F).blocks,∃a∈F.blocks,mrgB (kF F) a=b:=fun b hb=>List.mem_map.1 hb
 refine⟨h.vars,h.params,by simpa[mrgF]using h.blocks,fun b hb'=>?_,fun b hb' p hp=>?_,fun b hb' x hx=>?_⟩
 · obtain⟨a,ha,rfl⟩:=hb b hb'
   have:=h.parts a ha;exact⟨this.1,Nat.le_trans (mrgL_len (Nat.le_refl _)) this.2⟩
 · obtain⟨a,ha,rfl⟩:=hb b hb'
   exact h.pairs a ha p hp
 · obtain⟨a,ha,rfl⟩:=hb b hb'
   rcases mrgL_mem (Nat.le_refl _) hx with h1|⟨u,v,rfl⟩
   · exact h.args a ha x h1
   · show [u,v].length≤100000
     simp
theorem typed_ok(hT:typedP F=true)(hS:F.vars.length≤1048575)(hi:i<F.blocks.length):∀x∈(F.blk i).insts,OkI x:=fun x hx=>by
 have h1:=(shaped_blk (typed_shaped hT) hi).2.1 x hx;unfold instB isOp at h1;simp only[Bool.and_eq_true]at h1;obtain⟨⟨⟨⟨ho,hl⟩,hv⟩,hd⟩,hn⟩:=h1;have ho':=inB_true ho;refine⟨ho'.1,ZO,fun h=>?_⟩;rw[h]at hl;have hl2:x.args.length=2:=by have:=of_decide_eq_true hl;rw[this];decide +kernel
 have hd2:x.dst=-1:=by
  unfold dstB at hd;rw[if_neg (by rw[h];decide +kernel)]at hd;simpa using hd
 have hn2:x.num=0:=by simpa[h]using hn
 obtain⟨o,d,ag,nu⟩:=x;simp only at h hl2 hd2 hn2 hv;obtain⟨a,v,rfl⟩:∃a v,ag=[a,v]:=by
  match ag,hl2 with
  |[a,v],_=>exact⟨a,v,rfl⟩
 unfold varsB at hv;have h3:=inB_true (List.all_eq_true.1 hv v ZS);exact⟨a,v,by rw[h,hd2,hn2];rfl,h3.1,ZO⟩
theorem typed_insM(hT:typedP F=true)(hi:i<F.blocks.length):(F.blk i).insts.length≤1024:=by
 have h:=typed_sum hT (n:=i+1) hi;rw[evs,List.length_append,evBlk,List.length_append,evPhi_len,evIns_len]at h;omega
theorem typed_dst(hT:typedP F=true)(hi:i<F.blocks.length):∀x∈(F.blk i).insts,-1≤x.dst∧x.dst<F.vars.length:=fun x hx=>by
 have h1:=(shaped_blk (typed_shaped hT) hi).2.1 x hx;unfold instB dstB at h1;simp only[Bool.and_eq_true]at h1;have h2:=h1.1.2;split at h2
 · have:=inB_true h2
   omega
 · have:=of_decide_eq_true h2
   omega
theorem filter_range{p:PInst→Bool}(b:PBlock):∀n,n≤b.insts.length→((b.insts.take n).filter p).length=(((List.range n).filter fun j=>p (b.inst j))).length
 |0,_=>rfl
 |n+1,h=>by
  rw[List.range_succ,List.filter_append,List.length_append,List.take_add_one,PBlock.inst_get ZO,List.filter_append,List.length_append,filter_range b n ZO];congr 1;cases hp:p (b.inst n)<;>simp[hp]
theorem typed_onceL(hT:typedP F=true)(hO:onceB F=true)(hi:i<F.blocks.length):OnceL (F.blk i).insts:=fun v hv=>by
 by_cases h1:v<F.vars.length
 · have h2:=once_le hO hv h1
   obtain⟨r,hr⟩:=evs_prefix (F:=F) (i:=i+1) (j:=F.blocks.length) hi;unfold evF at h2;rw[hr,evs,evBlk,mkOf_app,mkOf_app,mkOf_app]at h2;simp only[List.length_append]at h2;have h3:(mkOf (evIns F i (F.blk i).insts.length) v).length=((F.blk i).insts.filter fun y=>decide (y.dst=v)).length:=by
    have h4:=filter_range (p:=fun y=>decide (y.dst=v)) (F.blk i) (F.blk i).insts.length (Nat.le_refl _);rw[List.take_length]at h4;rw[h4];unfold mkOf evIns;rw[List.length_map,List.filter_map,List.length_map];congr 1
   omega
 · have h0:((F.blk i).insts.filter fun y=>decide (y.dst=v))=[]:=List.filter_eq_nil_iff.2 fun y hy=>by
    obtain⟨j,hj,e⟩:=List.getElem_of_mem hy;have h3:=(typed_inst hT hi hj).1;rw[show(F.blk i).inst j=y by simp[PBlock.inst,List.getD,hj,e]]at h3;simp;omega
   rw[h0];simp
end
section
variable {F G:PFunc} {k k':Int→Option Int} {w w':World} {base gw gb cap gm i n':Nat} {vv vp:Value} {qs:List (PBlock×Value×Value)}
theorem MgM.kput(h:MgM F k w base gw gb cap gm vv vp qs)(hg:w.grownBy w' (some gm))(hm:KM w' gm n' k'):MgM F k' w' base gw gb cap gm vv vp qs:=by
 obtain⟨n,hk⟩:=h.km
 have hkt:KT [3,66,47,42,52,71] w w':=⟨hg.size,fun b hb=>hg.block b hb.lt (fun e=>by
  cases e;obtain⟨cs,t,h1,-⟩:=hb
  exact hk.ne h1 rfl)⟩
 exact⟨(hkt.blk gw ⟨_,_,h.box,ZS⟩).trans h.box,h.hV.kt hkt ZS (fun _ _ h=>h),own_kt h.hI hkt ZS,h.hq.kt hkt ZS (fun _ _ h=>CBI.kt hkt ZS ZS ZS h),h.pw,_,hm⟩
theorem MgM.fn(hV:RRow w base 52 2 CVar vv F.vars)(hI:w.ownsRow base 3 1 vp F.params.length (F.params.map (Value.int .i64))){vb:Value}(hq:RRow w base 42 7 (CBI w base) vb qs)
 (he:qs.map Prod.fst=G.blocks) (h0:G.vars=F.vars) (h1:G.params=F.params) (hB:Bnd G):FnV w w.heap.size (.agg #[vv,vp,vb]) G:=by
 have hv:=hB.vars;have hp:=hB.params;refine⟨vv,vp,vb,rfl,by rw[h0]at hv ⊢;exact DVars.rd (D:=fun _=>True) (hV.done ZO (fun _ _ _=>trivial)) (fun _ h _=>h),by rw[h1]at hp ⊢;exact DInts.rd (D:=fun _=>True) (DInts.of_own hI ZO (fun _ _ _=>trivial)) (fun _ h _=>h),?_⟩;have hn:qs.length≤1048576:=by have:=hB.blocks;rw[← he,List.length_map]at this;omega
 obtain⟨A,c,rfl,hl,hc,hr⟩:=hq.done (D:=fun _=>True) hn (fun _ _ _=>trivial);rw[← he];refine⟨A,c,by rw[List.length_map],by rw[List.length_map];exact hl,by rw[List.length_map];exact hc,fun i x hx=>?_⟩;rw[List.getElem?_map]at hx;obtain⟨p,hx2,rfl⟩:=Option.map_eq_some_iff.1 hx;obtain⟨b,off,cs,ha,-,hb,-,hcells,rfl,hz,h1,h2⟩:=hr i p hx2;have hm:p.1∈G.blocks:=by rw[← he];exact List.mem_map_of_mem (List.mem_of_getElem? hx2)
 have:=hB.parts _ hm;exact⟨b,off,ha,hb,hz,hcells 0 _ rfl,⟨_,hcells 1 _ rfl,phis_of h1 ZO⟩,⟨_,hcells 2 _ rfl,h2.sinsts ZO⟩,hcells 3 _ rfl,hcells 4 _ rfl,hcells 5 _ rfl,hcells 6 _ rfl⟩
theorem CBO.cbi{base:Nat}{cs:List Value}{x:PBlock×Value×Value}(h:CBO w base cs x):CBI w base cs x:=⟨h.1,h.2.1,h.2.2.1,IRow.of_rrow h.2.2.2⟩
end
end Go.Proofs.YtlhhfcleioikoaaGreatDoor
