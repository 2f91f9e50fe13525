/- The plain law of merge: of checks of places of one array one is left. -/
import Derived.Test.YtjlclkcmfokobaaGreatDoorOpsZ
import Derived.Test.YtjlclkcmfokobaaGreatDoorMemTZ
import Derived.Maps.OwnSet
import Derived.Maps.Views
namespace Go.Proofs.YtjlclkcmfokobaaGreatDoor
open Go.RowKit
set_option maxRecDepth 100000
def isQ(x:PInst):Bool:=!(decide (x.op=15)||decide (x.op=17)||decide (19≤x.op∧x.op≤24))
def Yl(l:List PInst):Nat:=(l.takeWhile isQ).length
def fixP(k:Int→Option Int)(x:PInst):Option Int:=
 if x.op=18 then(k (ith x.args 1)).bind fun n=>if 0≤n then some n else none else none
def chk(a v:Int):PInst:=⟨18,-1,[a,v],0⟩
def Ya4(k:Int→Option Int)(a:Int)(n j:Nat)(y:PInst)(s:List PInst×Int×Int):List PInst×Int×Int:=
 match fixP k y with
 |some m=>if j<n∧ith y.args 0=a then(if s.2.1<m then(s.1,m,ith y.args 1) else s) else(s.1++[y],s.2)
 |none=>(s.1++[y],s.2)
def gat(k:Int→Option Int)(a:Int)(n:Nat)(b v:Int)(l:List PInst):Nat→List PInst×Int×Int
 |0=>([],b,v)
 |j+1=>match l[j]? with
  |some y=>Ya4 k a n j y (gat k a n b v l j)
  |none=>gat k a n b v l j
def mrgS(k:Int→Option Int)(x:PInst)(l:List PInst):List PInst×List PInst:=
 match fixP k x with
 |none=>([x],l)
 |some b=>
  let g:=gat k (ith x.args 0) (Yl l) b (ith x.args 1) l l.length
  if g.2.2=ith x.args 1 then([chk (ith x.args 0) g.2.2],g.1)
  else(g.1.filter (fun y=>decide (y.dst=g.2.2))++[chk (ith x.args 0) g.2.2],g.1.filter fun y=>decide (y.dst≠g.2.2))
def Ycr(k:Int→Option Int):Nat→List PInst→List PInst
 |0,l=>l
 |_,[]=>[]
 |f+1,x::l=>(mrgS k x l).1++Ycr k f (mrgS k x l).2
def mrgL(k:Int→Option Int)(l:List PInst):List PInst:=Ycr k l.length l
section
variable {k:Int→Option Int} {a b v:Int} {n j:Nat} {l:List PInst} {x y:PInst}
theorem YcT:Yl l≤l.length:=(List.takeWhile_sublist _).length_le
theorem YbC(h:l[j]?=some y):gat k a n b v l (j+1)=Ya4 k a n j y (gat k a n b v l j):=by rw[gat,h]
theorem Ycs(h:fixP k y=none){s:List PInst×Int×Int}:Ya4 k a n j y s=(s.1++[y],s.2):=by rw[Ya4,h]
theorem Ycg{m:Int}(h:fixP k y=some m)(hn:¬(j<n∧ith y.args 0=a)){s:List PInst×Int×Int}:Ya4 k a n j y s=(s.1++[y],s.2):=by
 rw[Ya4,h];exact if_neg hn
theorem YcU{m:Int}(h:fixP k y=some m)(hn:j<n∧ith y.args 0=a){s:List PInst×Int×Int}(hm:s.2.1<m):Ya4 k a n j y s=(s.1,m,ith y.args 1):=by
 rw[Ya4,h];simp only[];rw[if_pos hn,if_pos hm]
theorem YcV{m:Int}(h:fixP k y=some m)(hn:j<n∧ith y.args 0=a){s:List PInst×Int×Int}(hm:¬s.2.1<m):Ya4 k a n j y s=s:=by
 rw[Ya4,h];simp only[];rw[if_pos hn,if_neg hm]
theorem Ykj{s:List PInst×Int×Int}:(Ya4 k a n j y s).1=s.1∨(Ya4 k a n j y s).1=s.1++[y]:=by
 cases h:fixP k y with
 |none=>exact .inr (by rw[Ycs h])
 |some m=>
  by_cases h1:j<n∧ith y.args 0=a
  · by_cases h2:s.2.1<m
    · exact .inl (by rw[YcU h h1 h2])
    · exact .inl (by rw[YcV h h1 h2])
  · exact .inr (by rw[Ycg h h1])
theorem Yfc:∀{j:Nat},j≤l.length→(gat k a n b v l j).1.Sublist (l.take j)
 |0,_=>by simp[gat]
 |j+1,h=>by
  have h1:=Yfc (j:=j) ZO;have h2:l[j]?=some (l[j]'(ZO)):=List.getElem?_eq_getElem ZO;rw[YbC h2,List.take_add_one,h2];rcases Ykj (k:=k) (a:=a) (n:=n) (j:=j) (y:=l[j]'(ZO)) (s:=gat k a n b v l j)with e|e
  · rw[e]
    exact h1.trans (List.sublist_append_left _ _)
  · rw[e]
    exact h1.append (List.Sublist.refl _)
theorem Yea(h:j≤l.length):(gat k a n b v l j).1.length≤j:=by
 have:=(Yfc (k:=k) (a:=a) (n:=n) (b:=b) (v:=v) h).length_le;rw[List.length_take]at this;omega
theorem Ydr:(gat k a n b v l l.length).1.Sublist l:=by
 have:=Yfc (k:=k) (a:=a) (n:=n) (b:=b) (v:=v) (l:=l) (Nr _)
 rwa [List.take_length]at this
theorem Yfd:∀{j:Nat},j≤l.length→(gat k a n b v l j).2.2=v∨∃y∈l,y.op=18∧(gat k a n b v l j).2.2=ith y.args 1
 |0,_=>.inl rfl
 |j+1,h=>by
  have h1:=Yfd (j:=j) ZO;have h2:l[j]?=some (l[j]'(ZO)):=List.getElem?_eq_getElem ZO;rw[YbC h2];generalize l[j]'(ZO)=y at h2 ⊢;cases hf:fixP k y with
  |none=>
   rw[Ycs hf];exact h1
  |some m=>
   by_cases hn:j<n∧ith y.args 0=a
   · by_cases hm:(gat k a n b v l j).2.1<m
     · rw[YcU hf hn hm]
       refine .inr ⟨y,List.mem_of_getElem? h2,?_,rfl⟩;unfold fixP at hf;split at hf
       · exact ZA
       · cases hf
     · rw[YcV hf hn hm]
       exact h1
   · rw[Ycg hf hn]
     exact h1
theorem Yfe(p:PInst→Bool):∀(l:List PInst),(l.filter p).length+(l.filter fun y=>!p y).length=l.length
 |[]=>rfl
 |x::l=>by
  have:=Yfe p l;cases h:p x<;>simp[h]<;>omega
theorem YgT{y:PInst}{v:Int}:decide (y.dst≠v)=!decide (y.dst=v):=by simp
theorem Ybm:(mrgS k x l).1.length+(mrgS k x l).2.length≤l.length+1∧(mrgS k x l).2.length≤l.length:=by
 unfold mrgS;cases h:fixP k x with
 |none=>simp;omega
 |some b=>
  simp only[];have h1:=(Ydr (k:=k) (a:=ith x.args 0) (n:=Yl l) (b:=b) (v:=ith x.args 1) (l:=l)).length_le;split
  · exact⟨by simp only[List.length_singleton];omega,h1⟩
  · have h2:=Yfe (fun y=>decide (y.dst=(gat k (ith x.args 0) (Yl l) b (ith x.args 1) l l.length).2.2)) (gat k (ith x.args 0) (Yl l) b (ith x.args 1) l l.length).1
    simp only[YgT,List.length_append,List.length_cons,List.length_nil]at *;omega
theorem YgU:∀{f g:Nat} {l:List PInst},l.length≤f→l.length≤g→Ycr k f l=Ycr k g l
 |0,0,_,_,_=>rfl
 |0,g+1,l,h,_=>by rw[List.eq_nil_of_length_eq_zero (by omega:l.length=0)];rfl
 |f+1,0,l,_,h=>by rw[List.eq_nil_of_length_eq_zero (by omega:l.length=0)];rfl
 |f+1,g+1,[],_,_=>rfl
 |f+1,g+1,x::l,h,h'=>by
  have:=(Ybm (k:=k) (x:=x) (l:=l)).2;simp only[List.length_cons]at h h';rw[Ycr,Ycr,YgU (f:=f) (g:=g) ZO ZO]
theorem YbN:mrgL k []=[]:=rfl
theorem Ybn:mrgL k (x::l)=(mrgS k x l).1++mrgL k (mrgS k x l).2:=by
 have:=(Ybm (k:=k) (x:=x) (l:=l)).2;unfold mrgL;rw[List.length_cons,Ycr,YgU (f:=l.length) (g:=(mrgS k x l).2.length) ZO (Nr _)]
theorem Ykk:0<(mrgS k x l).1.length:=by
 unfold mrgS;cases h:fixP k x with
 |none=>simp
 |some b=>
  simp only[];split<;>simp
end
def OnceL(l:List PInst):Prop:=∀v:Int,0≤v→(l.filter fun y=>decide (y.dst=v)).length≤1
def ShC(x:PInst):Prop:=x.op=18→∃a v:Int,x=chk a v∧0≤v
section
variable {k:Int→Option Int} {l T:List PInst} {x:PInst}
theorem OnceL.sub{l l':List PInst}(h:OnceL l)(hs:l'.Sublist l):OnceL l':=fun v hv=>Nat.le_trans (hs.filter _).length_le (h v hv)
theorem Ykl{l:List PInst}{v:Int}(h:(l.filter fun y=>decide (y.dst=v)).length≤1){A B:List PInst}{m:PInst}(e:l=A++m::B)(hm:m.dst=v) :
 l.filter (fun y=>decide (y.dst=v))=[m]∧l.filter (fun y=>decide (y.dst≠v))=A++B:=by
 subst e;have hA:A.filter (fun y=>decide (y.dst=v))=[]:=by
  rw[List.filter_append,List.filter_cons,if_pos (by simpa using hm),List.length_append,List.length_cons]at h;exact List.eq_nil_of_length_eq_zero ZO
 have hB:B.filter (fun y=>decide (y.dst=v))=[]:=by
  rw[List.filter_append,List.filter_cons,if_pos (by simpa using hm),List.length_append,List.length_cons]at h;exact List.eq_nil_of_length_eq_zero ZO
 have nA:A.filter (fun y=>decide (y.dst≠v))=A:=List.filter_eq_self.2 fun y hy=>by
  have:=List.filter_eq_nil_iff.1 hA y hy;simpa using this
 have nB:B.filter (fun y=>decide (y.dst≠v))=B:=List.filter_eq_self.2 fun y hy=>by
  have:=List.filter_eq_nil_iff.1 hB y hy;simpa using this
 refine⟨?_,?_⟩
 · rw[List.filter_append,hA,List.filter_cons,if_pos (by simpa using hm),hB]
   rfl
 · rw[List.filter_append,nA,List.filter_cons,if_neg (by simpa using hm),nB]
theorem Ykm{l:List PInst}{v:Int}(h:l.filter (fun y=>decide (y.dst=v))=[]):l.filter (fun y=>decide (y.dst≠v))=l:=List.filter_eq_self.2 fun y hy=>by
 have:=List.filter_eq_nil_iff.1 h y hy;simpa using this
theorem Yff{α:Type}{p:α→Bool}:∀(l:List α) (i:Nat),(Yg p l i=-1∧l.filter p=[])∨∃A m B,l=A++m::B∧Yg p l i=((i+A.length:Nat):Int)∧p m=true∧A.filter p=[]
 |[],i=>.inl ⟨rfl,rfl⟩
 |x::r,i=>by
  unfold Yg;cases h:p x
  · rcases Yff r (i+1)with⟨h1,h2⟩|⟨A,m,B,h1,h2,h3,h4⟩
    · exact .inl ⟨by simpa using h1,by simp[h,h2]⟩
    · refine .inr ⟨x::A,m,B,by rw[h1];rfl,?_,h3,by simp[h,h4]⟩
      simp only[Bool.false_eq_true,if_false,h2,List.length_cons];omega
  · exact .inr ⟨[],x,r,rfl,ZS,h,rfl⟩
theorem Ykn{b:Int}(hO:OnceL (T++x::l))(hf:fixP k x=some b){g:List PInst×Int×Int}(hg:g=gat k (ith x.args 0) (Yl l) b (ith x.args 1) l l.length)(hv0:0≤g.2.2)
 (hc:Yg (fun y=>decide (y.dst=g.2.2)) (T++chk (ith x.args 0) g.2.2::g.1) 0<(T.length:Int)):mrgS k x l=([chk (ith x.args 0) g.2.2],g.1):=by
 have hs:g.1.Sublist l:=by rw[hg];exact Ydr
 unfold mrgS;rw[hf];simp only[];rw[← hg]
 by_cases hv:g.2.2=ith x.args 1
 · rw[if_pos hv]
 · rw[if_neg hv]
   have hnil:g.1.filter (fun y=>decide (y.dst=g.2.2))=[]:=by
    rcases Yff (p:=fun y:PInst=>decide (y.dst=g.2.2)) (T++chk (ith x.args 0) g.2.2::g.1) 0 with⟨-,h⟩|⟨A,m,B,e,h2,h3,-⟩
    · rw[List.filter_append,List.append_eq_nil_iff]at h
      have h5:=h.2;rw[List.filter_cons]at h5;split at h5
      · cases h5
      · exact h5
    · rw[h2]at hc
      have hA:A.length<T.length:=by omega
      have hm:m∈T:=by
       have h4:(T++chk (ith x.args 0) g.2.2::g.1)[A.length]?=some m:=by rw[e];simp
       rw[List.getElem?_append_left hA]at h4;exact List.mem_of_getElem? h4
      have h6:=hO g.2.2 hv0;rw[List.filter_append,List.length_append]at h6;have h7:0<(T.filter fun y=>decide (y.dst=g.2.2)).length:=List.length_pos_of_mem (List.mem_filter.2 ⟨hm,h3⟩);have h8:((x::l).filter fun y=>decide (y.dst=g.2.2)).length=0:=by omega
      have h9:=(hs.filter (fun y=>decide (y.dst=g.2.2))).length_le;have h10:=((List.sublist_cons_self x l).filter (fun y=>decide (y.dst=g.2.2))).length_le;exact List.eq_nil_of_length_eq_zero ZO
   rw[hnil,Ykm hnil];rfl
theorem Yko{b:Int}(hO:OnceL (T++x::l))(hf:fixP k x=some b){g:List PInst×Int×Int}(hg:g=gat k (ith x.args 0) (Yl l) b (ith x.args 1) l l.length)(hv0:0≤g.2.2)(hv:g.2.2≠ith x.args 1)
 {c:Nat} (hc:Yg (fun y=>decide (y.dst=g.2.2)) (T++chk (ith x.args 0) g.2.2::g.1) 0=(c:Int)) (hcT:T.length≤c) :
 ∃m A B,g.1=A++m::B∧c=T.length+1+A.length∧mrgS k x l=([m,chk (ith x.args 0) g.2.2],A++B):=by
 have hs:g.1.Sublist l:=by rw[hg];exact Ydr
 rcases Yff (p:=fun y:PInst=>decide (y.dst=g.2.2)) (T++chk (ith x.args 0) g.2.2::g.1) 0 with⟨h,-⟩|⟨A,m,B,e,h2,h3,-⟩
 · rw[h]at hc
   omega
 · have hcA:c=A.length:=by rw[h2]at hc;omega
   have h3':m.dst=g.2.2:=by simpa using h3
   have e1:(T++chk (ith x.args 0) g.2.2::g.1).drop c=m::B:=by rw[e,hcA];exact List.drop_left
   rw[List.drop_append,List.drop_eq_nil_of_le hcT,List.nil_append]at e1;have hne:c-T.length≠0:=by
    intro e0;rw[e0,List.drop_zero]at e1;injection e1 with e2 _
    rw[← e2]at h3';have:(-1:Int)=g.2.2:=h3';omega
   obtain⟨d,hd⟩:∃d,c-T.length=d+1:=⟨c-T.length-1,ZO⟩;rw[hd,List.drop_succ_cons]at e1;have e2:g.1=g.1.take d++m::B:=by rw[← e1,List.take_append_drop]
   have hdl:(g.1.take d).length=d:=by
    have:=congrArg List.length e1;rw[List.length_drop,List.length_cons]at this;rw[List.length_take];omega
   refine⟨m,g.1.take d,B,e2,by rw[hdl];omega,?_⟩;have hon:(g.1.filter fun y=>decide (y.dst=g.2.2)).length≤1:=by
    have h6:=hO g.2.2 hv0;rw[List.filter_append,List.length_append]at h6;have h9:=(hs.filter (fun y=>decide (y.dst=g.2.2))).length_le;have h10:=((List.sublist_cons_self x l).filter (fun y=>decide (y.dst=g.2.2))).length_le;omega
   obtain⟨f1,f2⟩:=Ykl hon e2 h3';unfold mrgS;rw[hf];simp only[];rw[← hg,if_neg hv,f1,f2];rfl
theorem Yfg{m:PInst}(h:m∈(mrgS k x l).1++(mrgS k x l).2):m=x∨m∈l∨∃b,fixP k x=some b∧m=chk (ith x.args 0) (gat k (ith x.args 0) (Yl l) b (ith x.args 1) l l.length).2.2:=by
 unfold mrgS at h;cases hf:fixP k x with
 |none=>
  rw[hf]at h;simp at h;rcases h with h|h
  · exact .inl h
  · exact .inr (.inl h)
 |some b=>
  rw[hf]at h;simp only[]at h;have hs:=Ydr (k:=k) (a:=ith x.args 0) (n:=Yl l) (b:=b) (v:=ith x.args 1) (l:=l);generalize hg:gat k (ith x.args 0) (Yl l) b (ith x.args 1) l l.length=g at *;split at h
  · simp at h
    rcases h with h|h
    · exact .inr (.inr ⟨b,rfl,by rw[hg];exact h⟩)
    · exact .inr (.inl (hs.subset h))
  · simp only[List.mem_append,List.mem_filter,List.mem_singleton]at h
    rcases h with(h|h)|h
    · exact .inr (.inl (hs.subset h.1))
    · exact .inr (.inr ⟨b,rfl,by rw[hg];exact h⟩)
    · exact .inr (.inl (hs.subset h.1))
theorem Ykp{v:Int}(hv:0≤v):(((mrgS k x l).1++(mrgS k x l).2).filter fun y=>decide (y.dst=v)).length≤((x::l).filter fun y=>decide (y.dst=v)).length:=by
 unfold mrgS;cases hf:fixP k x with
 |none=>simp
 |some b=>
  simp only[];have hs:=(Ydr (k:=k) (a:=ith x.args 0) (n:=Yl l) (b:=b) (v:=ith x.args 1) (l:=l)).filter (fun y=>decide (y.dst=v));have hl:=hs.length_le;have hc:∀u,¬(decide ((chk (ith x.args 0) u).dst=v))=true:=fun u=>by
   have:(chk (ith x.args 0) u).dst=-1:=rfl;rw[this];simp;omega
  have h10:=((List.sublist_cons_self x l).filter (fun y=>decide (y.dst=v))).length_le;generalize gat k (ith x.args 0) (Yl l) b (ith x.args 1) l l.length=g at *;split
  · rw[List.filter_append,List.filter_cons,if_neg (hc _)]
    simp;omega
  · rw[List.filter_append,List.filter_append,List.filter_cons (x:=chk _ _),if_neg (hc _)]
    have h1:((g.1.filter fun y=>decide (y.dst=g.2.2)).filter fun y=>decide (y.dst=v)).length+((g.1.filter fun y=>decide (y.dst≠g.2.2)).filter fun y=>decide (y.dst=v)).length=(g.1.filter fun y=>decide (y.dst=v)).length:=by
     have:=Yfe (fun y=>decide (y.dst=g.2.2)) (g.1.filter fun y=>decide (y.dst=v));simp only[List.filter_filter,YgT]at *;rw[← this];congr 2<;>(refine List.filter_congr fun y _=>?_;rw[Bool.and_comm])
    simp only[List.length_append,List.filter_nil,List.append_nil]at *;omega
theorem OnceL.step(hO:OnceL (T++x::l)):OnceL (T++(mrgS k x l).1++(mrgS k x l).2):=fun v hv=>by
 have h1:=Ykp (k:=k) (l:=l) (x:=x) hv;have h2:=hO v hv;rw[List.filter_append,List.length_append]at h2;rw[List.append_assoc,List.filter_append,List.length_append];omega
theorem ShC.var(hx:ShC x){b:Int}(hf:fixP k x=some b)(hl:∀y∈l,ShC y):0≤(gat k (ith x.args 0) (Yl l) b (ith x.args 1) l l.length).2.2:=by
 have hop:x.op=18:=by
  unfold fixP at hf;split at hf
  · exact ZA
  · cases hf
 rcases Yfd (k:=k) (a:=ith x.args 0) (n:=Yl l) (b:=b) (v:=ith x.args 1) (l:=l) (Nr _)with e|⟨y,hy,h1,e⟩
 · rw[e]
   obtain⟨a,v,rfl,h0⟩:=hx hop;exact h0
 · rw[e]
   obtain⟨a,v,rfl,h0⟩:=hl y hy h1;exact h0
theorem ShC.step(hx:ShC x)(hl:∀y∈l,ShC y):∀y∈(mrgS k x l).1++(mrgS k x l).2,ShC y:=fun y hy=>by
 rcases Yfg hy with rfl|h|⟨b,hf,rfl⟩
 · exact hx
 · exact hl y h
 · exact fun _=>⟨_,_,rfl,hx.var hf hl⟩
end
def OkI(x:PInst):Prop:=0≤x.op∧x.op<27∧(x.op=18→∃a v:Int,x=chk a v∧0≤v∧v≤1048576)
theorem OkI.sh{x:PInst}(h:OkI x):ShC x:=fun h1=>by
 obtain⟨a,v,e,h0,-⟩:=h.2.2 h1;exact⟨a,v,e,h0⟩
theorem Ybc{k:Int→Option Int}{x:PInst}{b:Int}(h:fixP k x=some b):x.op=18:=by
 unfold fixP at h;split at h
 · exact ZA
 · cases h
theorem OkI.var{k:Int→Option Int}{x:PInst}{l:List PInst}{b:Int}{j:Nat}(hx:OkI x)(hf:fixP k x=some b)(hl:∀y∈l,OkI y)(hj:j≤l.length):0≤(gat k (ith x.args 0) (Yl l) b (ith x.args 1) l j).2.2∧(gat k (ith x.args 0) (Yl l) b (ith x.args 1) l j).2.2≤1048576:=by
 rcases Yfd (k:=k) (a:=ith x.args 0) (n:=Yl l) (b:=b) (v:=ith x.args 1) (l:=l) hj with e|⟨y,hy,h1,e⟩
 · rw[e]
   obtain⟨a,v,rfl,h0,h9⟩:=hx.2.2 (Ybc hf);exact⟨h0,h9⟩
 · rw[e]
   obtain⟨a,v,rfl,h0,h9⟩:=(hl y hy).2.2 h1;exact⟨h0,h9⟩
theorem OkI.step{k:Int→Option Int}{x:PInst}{l:List PInst}(hx:OkI x)(hl:∀y∈l,OkI y):∀y∈(mrgS k x l).1++(mrgS k x l).2,OkI y:=fun y hy=>by
 rcases Yfg hy with rfl|h|⟨b,hf,rfl⟩
 · exact hx
 · exact hl y h
 · have:=hx.var hf hl (Nr _)
   exact⟨(by decide:(0:Int)≤18),(by decide:(18:Int)<27),fun _=>⟨_,_,rfl,this.1,this.2⟩⟩
def Chs(w:World)(ch:List (List Value))(xs:List PInst):Prop:=ch.length=xs.length∧∀(i:Nat) cs x,ch[i]?=some cs→xs[i]?=some x→cs.length=4∧CIn w cs x
theorem YeA{w:World}{D:Nat→Prop}{cs:List Value}{x:PInst}(h:CInst w D cs x):∀y∈cs,y.oneCell'=true:=by
 obtain⟨v1,rfl,A,c,rfl,-⟩:=h;intro y hy;simp at hy;rcases hy with rfl|rfl|rfl|rfl<;>rfl
theorem Yga:∀{ch:List (List Value)},(∀c∈ch,c.length=4)→ch.flatten.length=ch.length*4
 |[],_=>rfl
 |c::ch,h=>by
  rw[List.flatten_cons,List.length_append,Yga fun c hc=>h c (List.mem_cons_of_mem _ hc),h c (List.mem_cons_self ..),List.length_cons];omega
theorem Ydc:∀{ch:List (List Value)} {i:Nat},(∀c∈ch,c.length=4)→ch.flatten.take (i*4)=(ch.take i).flatten
 |[],i,_=>by simp
 |c::ch,0,_=>by simp
 |c::ch,i+1,h=>by
  have hc:=h c (List.mem_cons_self ..);rw[List.flatten_cons,List.take_succ_cons,List.flatten_cons,← Ydc (ch:=ch) (i:=i) fun c hc=>h c (List.mem_cons_of_mem _ hc),show(i+1)*4=c.length+i*4 from ZO,List.take_length_add_append]
theorem Yic{ch:List (List Value)}{i:Nat}(h:∀c∈ch,c.length=4):ch.flatten.drop (i*4)=(ch.drop i).flatten:=by
 have h1:ch.flatten=(ch.take i).flatten++(ch.drop i).flatten:=by rw[← List.flatten_append,List.take_append_drop]
 have h2:=Ydc (i:=i) h;rw[← List.take_append_drop (i*4) ch.flatten,h2]at h1;exact List.append_cancel_left h1
section
variable {w w':World} {ch ch':List (List Value)} {xs ys:List PInst} {ts:List TypeId}
theorem Chs.all(h:Chs w ch xs):∀c∈ch,c.length=4:=fun cs hm=>by
 obtain⟨i,hi,rfl⟩:=List.getElem_of_mem hm;exact(h.2 i _ (xs[i]'(by have:=h.1;omega)) (by simp[hi]) ZS).1
theorem Chs.flat(h:Chs w ch xs):ch.flatten.length=xs.length*4:=by rw[Yga h.all,h.1]
theorem Chs.kt(h:Chs w ch xs)(hk:KT ts w w')(hi:3∈ts):Chs w' ch xs:=⟨h.1,fun i cs x h1 h2=>⟨(h.2 i cs x h1 h2).1,CIn.kt hk hi (h.2 i cs x h1 h2).2⟩⟩
theorem Chs.take(h:Chs w ch xs)(n:Nat):Chs w (ch.take n) (xs.take n):=by
 refine⟨by rw[List.length_take,List.length_take,h.1],fun i cs x h1 h2=>?_⟩;rw[List.getElem?_take]at h1 h2;split at h1
 · rename_i hk
   rw[if_pos hk]at h2;exact h.2 i cs x h1 h2
 · cases h1
theorem Chs.drop(h:Chs w ch xs)(n:Nat):Chs w (ch.drop n) (xs.drop n):=by
 refine⟨by rw[List.length_drop,List.length_drop,h.1],fun i cs x h1 h2=>?_⟩;rw[List.getElem?_drop]at h1 h2;exact h.2 _ cs x h1 h2
theorem Chs.app(h:Chs w ch xs)(h':Chs w ch' ys):Chs w (ch++ch') (xs++ys):=by
 refine⟨by rw[List.length_append,List.length_append,h.1,h'.1],fun i cs x h1 h2=>?_⟩;have hl:=h.1
 by_cases hi:i<ch.length
 · rw[List.getElem?_append_left hi]at h1
   rw[List.getElem?_append_left ZO]at h2;exact h.2 i cs x h1 h2
 · rw[List.getElem?_append_right ZO]at h1 h2
   rw[hl]at h1;exact h'.2 _ cs x h1 h2
theorem Chs.one{cs:List Value}{x:PInst}(hl:cs.length=4)(h:CIn w cs x):Chs w [cs] [x]:=⟨rfl,fun i c y h1 h2=>by
 cases i with
 |zero=>simp at h1 h2;subst h1 h2;exact⟨hl,h⟩
 |succ i=>simp at h1⟩
theorem Chs.ones(h:Chs w ch xs):∀u∈ch.flatten,u.oneCell'=true:=fun u hu=>by
 obtain⟨cs,hcs,hu⟩:=List.mem_flatten.1 hu;obtain⟨i,hi,rfl⟩:=List.getElem_of_mem hcs;exact YeA (h.2 i _ (xs[i]'(by have:=h.1;omega)) (by simp[hi]) ZS).2 u hu
end
theorem YcH{g:Nat}{t:TypeId}:∀(vs:List Value) {w:World} {o:Nat} {cs:Array Value},BoxAt w g cs t→o+vs.length≤cs.size→∃cs':Array Value,BoxAt (w.setCells g o vs) g cs' t∧cs'.size=cs.size∧cs'.toList=cs.toList.take o++vs++cs.toList.drop (o+vs.length)
 |[],w,o,cs,h,_=>⟨cs,h,rfl,ZS⟩
 |v::vs,w,o,cs,h,hl=>by
  simp only[List.length_cons]at hl;obtain⟨cs',h1,h2,h3⟩:=YcH vs (h.set o v) (o:=o+1) ZX;refine⟨cs',h1,by rw[h2];simp,?_⟩;rw[h3];have ho:o<cs.toList.length:=by simp;omega
  simp only[Array.toList_setIfInBounds];rw[List.take_add_one,List.getElem?_set_self ho,List.take_set_of_le (Nr _),List.drop_set_of_lt ZO,List.length_cons,show o+1+vs.length=o+(vs.length+1)from ZO];simp
def IRow(w:World)(base:Nat)(v:Value)(xs:List PInst):Prop:=(v=.slice none 0 0∧xs=[])∨
 ∃g c,∃cur:Array Value,∃ch,v=.slice (some ⟨g,0,none⟩) xs.length c∧base≤g∧BoxAt w g cur 44∧xs.length≤c∧c≤maxLen∧c*4≤cur.size∧Chs w ch xs∧cur.toList.take (xs.length*4)=ch.flatten
section
variable {w w':World} {base B:Nat} {v:Value} {xs ys:List PInst} {ts:List TypeId}
theorem IRow.of_rrow(h:RRow w base 44 4 (CIn w) v xs):IRow w base v xs:=by
 obtain⟨ch,hl,hc,hr⟩:=h;rcases hr.2 with⟨h1,h0⟩|⟨g,cap,cur,hv,hb,hh,hn,hm,hsz,ht⟩
 · exact .inl ⟨h1,List.eq_nil_of_length_eq_zero h0⟩
 · exact .inr ⟨g,cap,cur,ch,hv,hb,hh,hn,hm,ZO,⟨hl,hc⟩,ht⟩
theorem IRow.lt(h:IRow w base v xs){k:Nat}(hk:v.ownBlock=some k):base≤k∧k<w.heap.size:=by
 rcases h with⟨rfl,-⟩|⟨g,c,cur,ch,rfl,hb,hh,-⟩
 · cases hk
 · cases hk
   exact⟨hb,hh.lt⟩
theorem IRow.nt(h:IRow w base v xs){k:Nat}(hk:v.ownBlock=some k):NT [44] w k:=by
 rcases h with⟨rfl,-⟩|⟨g,c,cur,ch,rfl,hb,hh,-⟩
 · cases hk
 · cases hk
   exact⟨_,_,hh,ZS⟩
theorem IRow.form(h:IRow w base v xs):∃A c,v=.slice A xs.length c∧xs.length≤c∧c≤maxLen:=by
 rcases h with⟨rfl,rfl⟩|⟨g,c,cur,ch,rfl,-,-,h1,h2,-⟩
 · exact⟨none,0,rfl,Nr _,by unfold maxLen;omega⟩
 · exact⟨_,_,rfl,h1,h2⟩
theorem IRow.turn(h:IRow w base v xs)(hk:∀k,v.ownBlock=some k→w'.heap[k]?=w.heap[k]?)(hi:KT [3] w w'):IRow w' base v xs:=by
 rcases h with h|⟨g,c,cur,ch,rfl,hb,hh,h1,h2,h3,h4,h5⟩
 · exact .inl h
 · exact .inr ⟨g,c,cur,ch,rfl,hb,(hk g rfl).trans hh,h1,h2,h3,h4.kt hi ZS,h5⟩
theorem IRow.kt(h:IRow w base v xs)(hk:KT ts w w')(hn:44∈ts)(hi:3∈ts):IRow w' base v xs:=
 h.turn (fun k e=>hk.blk k ((h.nt e).mono (by simpa using hn))) ⟨hk.size,fun b hb=>hk.blk b (hb.mono (by simpa using hi))⟩
theorem IRow.rebase(h:IRow w base v xs)(hB:B≤base):IRow w B v xs:=by
 rcases h with h|⟨g,c,cur,ch,rfl,hb,r⟩
 · exact .inl h
 · exact .inr ⟨g,c,cur,ch,rfl,Nat.le_trans hB hb,r⟩
theorem IRow.cells(h:IRow w base v xs){i:Nat}(hi:i<xs.length) :
 ∃g c A1 c1,v=.slice (some ⟨g,0,none⟩) xs.length c∧base≤g∧g<w.heap.size∧xs.length≤c∧c≤maxLen∧(∀j,w.frozen? ⟨g,j,none⟩=false)∧(∃cur,BoxAt w g cur 44)∧
  w.cell? ⟨g,i*4,none⟩=some (.int .i64 xs[i].op)∧w.cell? ⟨g,i*4+1,none⟩=some (.int .i64 xs[i].dst)∧w.cell? ⟨g,i*4+2,none⟩=some (.slice A1 xs[i].args.length c1)∧w.cell? ⟨g,i*4+3,none⟩=some (.int .i64 xs[i].num)∧
  DInts w (NT [3] w) (.slice A1 xs[i].args.length c1) xs[i].args:=by
 rcases h with⟨-,rfl⟩|⟨g,c,cur,ch,rfl,hb,hh,h1,h2,h3,h4,h5⟩
 · simp at hi
 · have hci:ch[i]?=some (ch[i]'(by have:=h4.1;omega)):=by simp[h4.1,hi]
   obtain⟨hl,v1,e,hd⟩:=h4.2 i _ xs[i] hci (by simp[hi]);obtain⟨A1,c1,rfl,-⟩:=id hd;have hcell:∀j u,(ch[i]'(by have:=h4.1;omega))[j]?=some u→j<4→w.cell? ⟨g,i*4+j,none⟩=some u:=fun j u hu hj=>by
    have:=Yc7 h4.all hci hj;rw[hh.cell,← Array.getElem?_toList,← hu,← this,← h5,List.getElem?_take,if_pos ZO]
   rw[e]at hcell;exact⟨g,c,A1,c1,rfl,hb,hh.lt,h1,h2,fun j=>hh.frozen j,⟨cur,hh⟩,by simpa using hcell 0 _ rfl ZO,hcell 1 _ rfl ZO,hcell 2 _ rfl ZO,hcell 3 _ rfl ZO,hd⟩
theorem IRow.sinsts(h:IRow w base v xs)(hn:xs.length≤1048576):SInsts w w.heap.size v xs:=by
 obtain⟨A,c,rfl,hc,-⟩:=h.form;refine⟨A,c,rfl,by unfold Len;omega,hc,fun i x hx=>?_⟩;obtain⟨hi,rfl⟩:=List.getElem?_eq_some_iff.1 hx;obtain⟨g,c',A1,c1,hv,-,hg,-,-,-,-,k0,k1,k2,k3,hd⟩:=h.cells hi;simp only[Value.slice.injEq,true_and]at hv;obtain⟨rfl,rfl⟩:=hv;exact⟨g,0,rfl,hg,by simpa using k0,by simpa using k1,⟨_,by simpa using k2,hd.rd fun _ h _=>h⟩,by simpa using k3⟩
theorem IRow.cut{A:Option Addr}{n c c' i:Nat}(h:IRow w base (.slice A n c) xs)(hi:i≤xs.length)(h1:i≤c')(h2:c'≤c):IRow w base (.slice A i c') (xs.take i):=by
 rcases h with⟨hv,rfl⟩|⟨g,c0,cur,ch,hv,hb,hh,k1,k2,k3,k4,k5⟩
 · simp only[Value.slice.injEq]at hv
   obtain⟨rfl,rfl,rfl⟩:=hv;simp at hi;subst hi;obtain rfl:c'=0:=by omega
   exact .inl ⟨rfl,rfl⟩
 · simp only[Value.slice.injEq]at hv
   obtain⟨rfl,rfl,rfl⟩:=hv;have hl:(xs.take i).length=i:=by rw[List.length_take];omega
   refine .inr ⟨g,c',cur,ch.take i,by rw[hl],hb,hh,by rw[hl];exact h1,ZO,ZO,k4.take i,?_⟩;rw[hl,← Ydc k4.all,← k5,List.take_take,Nat.min_eq_left ZO]
theorem IRow.args{g n c i:Nat}{u:Value}{ag:List Int}(h:IRow w base (.slice (some ⟨g,0,none⟩) n c) xs)(hi:i<xs.length)(hd:DInts w (NT [3] w) u ag) :
 IRow (w.setCell ⟨g,i*4+2,none⟩ u) base (.slice (some ⟨g,0,none⟩) n c) (xs.set i { xs[i]with args:=ag }):=by
 rcases h with⟨hv,-⟩|⟨g0,c0,cur,ch,hv,hb,hh,k1,k2,k3,k4,k5⟩
 · cases hv
 · simp only[Value.slice.injEq,Option.some.injEq,Addr.mk.injEq,and_true]at hv
   obtain⟨rfl,rfl,rfl⟩:=hv;have hk:KT [3] w (w.setCell ⟨g,i*4+2,none⟩ u):=KT.refl.setCell hh ZS _;have hcl:=k4.1;have hci:ch[i]?=some (ch[i]'(ZO)):=List.getElem?_eq_getElem ZO;obtain⟨hl4,v1,e1,-⟩:=k4.2 i _ xs[i] hci (by simp[hi]);have hcur:xs.length*4≤cur.size:=by omega
   refine .inr ⟨g,c,cur.setIfInBounds (i*4+2) u,ch.set i ((ch[i]'(ZO)).set 2 u),by rw[List.length_set],hb,hh.set _ _,by rw[List.length_set];exact k1,k2,by simpa using k3,?_,?_⟩
   · refine⟨by rw[List.length_set,List.length_set,k4.1],fun j cs x h1 h2=>?_⟩
     by_cases hj:i=j
     · subst hj
       rw[List.getElem?_set_self ZO]at h1 h2;cases h1;cases h2;rw[e1];exact⟨rfl,u,rfl,hd.turn (hk.tr ZS)⟩
     · rw[List.getElem?_set_ne hj]at h1 h2
       have:=(k4.kt hk ZS).2 j cs x h1 h2;exact this
   · have hs:(ch.set i ((ch[i]'(ZO)).set 2 u)).flatten=ch.flatten.set (i*4+2) u:=by
      have ha:ch=ch.take i++ch[i]'(ZO)::ch.drop (i+1):=by rw[← List.drop_eq_getElem_cons,List.take_append_drop]
      have hf:(ch.take i).flatten.length=i*4:=by
       rw[Yga fun c hc=>k4.all c (List.mem_of_mem_take hc),List.length_take];omega
      have e2:ch.flatten=(ch.take i).flatten++(ch[i]'(ZO)++(ch.drop (i+1)).flatten):=by
       conv=>lhs;rw[ha]
       rw[List.flatten_append,List.flatten_cons]
      rw[e2,List.set_append_right _ _ ZO,hf,show i*4+2-i*4=2 from ZO,List.set_append_left _ _ ZO,List.set_eq_take_append_cons_drop,if_pos ZO];rw[List.flatten_append,List.flatten_cons]
     rw[hs,List.length_set,Array.toList_setIfInBounds,← k5,List.take_set]
end
theorem YqF{P:Program}(w:World)(t ty e:TypeId)(i:TypeInfo)(ht:P.underlying t=some (.slice e))(hi:P.info? e=some i)
 (g sLen sCap:Nat) (cur:Array Value) (hg:BoxAt w g cur e)
 (a:Addr) (m c:Nat) (news:List Value) (hl:news.length=m*i.size) (hnews:∀j u,news[j]?=some u→w.cell? (a.add j)=some u) (h1:∀u∈news,u.oneCell'=true)
 (hroom:sLen+m≤sCap) (hfit:sLen*i.size+news.length≤cur.size) :
 (Builtin.append_ #[t,t] ty #[.slice (some ⟨g,0,none⟩) sLen sCap,.slice (some a) m c]).run P w=.ok (.slice (some ⟨g,0,none⟩) (sLen+m) sCap) (w.setCells g (sLen*i.size) news):=by
 have hf:=run_firstCells_some (P:=P) w i.size m a m c news hl hnews;have hst:=run_storeCells_cells (P:=P) g (sLen*i.size) news 0 w (fun j hj=>by rw[hg.cell];simp;omega) (fun j _=>hg.frozen _) h1;simp only[Nat.add_zero]at hst;simp[Builtin.append_,run_underlying ht,sizeOf,typeInfo,hi,Builtin.lenOf,hroom,hf,Addr.add_lit,hst]
theorem Yid{P:Program}(w:World)(t ty e:TypeId)(i:TypeInfo)(ht:P.underlying t=some (.slice e))(hi:P.info? e=some i)(g o dLen dCap:Nat)(cur:Array Value)(hg:BoxAt w g cur e)(a:Addr)(sLen sCap:Nat)(cs:List Value)
 (hn:cs.length=Nat.min sLen dLen*i.size) (hsrc:∀j v,cs[j]?=some v→w.cell? (a.add j)=some v) (hfit:o+cs.length≤cur.size) (h1:∀v∈cs,v.oneCell'=true) :
 (Builtin.copy_ #[t,t] ty #[.slice (some ⟨g,o,none⟩) dLen dCap,.slice (some a) sLen sCap]).run P w=.ok (goInt (Nat.min sLen dLen)) (w.setCells g o cs):=by
 have hf:=run_firstCells_some (P:=P) w i.size (Nat.min sLen dLen) a sLen sCap cs hn hsrc;have hst:=run_storeCells_cells (P:=P) g o cs 0 w (fun j hj=>by rw[hg.cell];simp;omega) (fun j _=>hg.frozen _) h1;simp only[Nat.add_zero]at hst;simp[Builtin.copy_,run_underlying ht,Builtin.lenOf,sizeOf,typeInfo,hi,hf,hst]
section
variable {w:World} {base g n c:Nat} {cur:Array Value} {ch:List (List Value)} {xs:List PInst}
theorem IRow.del{c0:Nat}{Z:List Value}(hb:base≤g)(hh:BoxAt w g cur 44)(k1:xs.length≤c)(k2:c≤maxLen)(k3:c*4≤cur.size)(k4:Chs w ch xs)(k5:cur.toList.take (xs.length*4)=ch.flatten)(hc:c0<xs.length)(hZ:Z.length=4) :
 IRow ((w.setCells g (c0*4) (ch.drop (c0+1)).flatten).setCells g ((xs.length-1)*4) Z) base (.slice (some ⟨g,0,none⟩) (xs.length-1) c) (xs.take c0++xs.drop (c0+1)):=by
 have hcl:=k4.1;have hd:=(k4.drop (c0+1)).flat;rw[List.length_drop]at hd;obtain⟨cs1,b1,s1,e1⟩:=YcH (ch.drop (c0+1)).flatten hh (o:=c0*4) ZO;obtain⟨cs2,b2,s2,e2⟩:=YcH Z b1 (o:=(xs.length-1)*4) ZO;have hkt:KT [3] w ((w.setCells g (c0*4) (ch.drop (c0+1)).flatten).setCells g ((xs.length-1)*4) Z):=KT.setCells (t:=44) ZS _ (KT.setCells (t:=44) ZS _ KT.refl hh) b1;have hl:(xs.take c0++xs.drop (c0+1)).length=xs.length-1:=by rw[List.length_append,List.length_take,List.length_drop];omega
 refine .inr ⟨g,c,cs2,ch.take c0++ch.drop (c0+1),by rw[hl],hb,b2,ZO,k2,ZO,((k4.take c0).app (k4.drop (c0+1))).kt hkt ZS,?_⟩;have ht1:cur.toList.take (c0*4)=(ch.take c0).flatten:=by rw[← Ydc k4.all,← k5,List.take_take,Nat.min_eq_left ZO]
 have hlt:((ch.take c0).flatten).length=c0*4:=by
  have:=(k4.take c0).flat;rw[List.length_take]at this;omega
 have hlc:cur.toList.length=cur.size:=by simp
 have hl1:cs1.toList.length=cur.size:=by simp[s1]
 rw[hl,e2,List.append_assoc,List.take_append_of_le_length (by rw[List.length_take,hl1];omega),List.take_take,Nat.min_self,e1,ht1,List.flatten_append];exact List.take_left' (by rw[List.length_append,hlt,hd];omega)
theorem IRow.ins{i:Nat}{m:PInst}{cs:List Value}(hb:base≤g)(hh:BoxAt w g cur 44)(k1:xs.length+1≤c)(k2:c≤maxLen)(k3:c*4≤cur.size)(k4:Chs w ch xs)(k5:cur.toList.take (xs.length*4)=ch.flatten)(hi:i≤xs.length)(hl:cs.length=4)(hm:CIn w cs m) :
 IRow ((w.setCells g ((i+1)*4) (ch.drop i).flatten).setCells g (i*4) cs) base (.slice (some ⟨g,0,none⟩) (xs.length+1) c) (xs.take i++m::xs.drop i):=by
 have hcl:=k4.1;have hd:=(k4.drop i).flat;rw[List.length_drop]at hd;obtain⟨cs1,b1,s1,e1⟩:=YcH (ch.drop i).flatten hh (o:=(i+1)*4) ZO;obtain⟨cs2,b2,s2,e2⟩:=YcH cs b1 (o:=i*4) ZO;have hkt:KT [3] w ((w.setCells g ((i+1)*4) (ch.drop i).flatten).setCells g (i*4) cs):=KT.setCells (t:=44) ZS _ (KT.setCells (t:=44) ZS _ KT.refl hh) b1;have hl2:(xs.take i++m::xs.drop i).length=xs.length+1:=by rw[List.length_append,List.length_take,List.length_cons,List.length_drop];omega
 refine .inr ⟨g,c,cs2,ch.take i++([cs]++ch.drop i),by rw[hl2],hb,b2,ZO,k2,ZO,((k4.take i).app ((Chs.one hl hm).app (k4.drop i))).kt hkt ZS,?_⟩;have ht1:cur.toList.take (i*4)=(ch.take i).flatten:=by rw[← Ydc k4.all,← k5,List.take_take,Nat.min_eq_left ZO]
 have hlt:((ch.take i).flatten).length=i*4:=by
  have:=(k4.take i).flat;rw[List.length_take]at this;omega
 have hlc:cur.toList.length=cur.size:=by simp
 have hl1:(cur.toList.take ((i+1)*4)).length=(i+1)*4:=by rw[List.length_take,hlc];omega
 rw[hl2,e2,e1,hl];have e3:(cur.toList.take ((i+1)*4)++(ch.drop i).flatten++cur.toList.drop ((i+1)*4+(ch.drop i).flatten.length)).take (i*4)=(ch.take i).flatten:=by
  rw[List.append_assoc,List.take_append_of_le_length ZO,List.take_take,Nat.min_eq_left ZO,ht1]
 have e4:(cur.toList.take ((i+1)*4)++(ch.drop i).flatten++cur.toList.drop ((i+1)*4+(ch.drop i).flatten.length)).drop (i*4+4)=(ch.drop i).flatten++cur.toList.drop ((i+1)*4+(ch.drop i).flatten.length):=by
  rw[List.append_assoc];exact List.drop_left' ZO
 rw[e3,e4,List.flatten_append,List.flatten_append];have e5:(ch.take i).flatten++cs++((ch.drop i).flatten++cur.toList.drop ((i+1)*4+(ch.drop i).flatten.length))=((ch.take i).flatten++([cs].flatten++(ch.drop i).flatten))++cur.toList.drop ((i+1)*4+(ch.drop i).flatten.length):=by simp
 rw[e5];exact List.take_left' (by simp only[List.length_append,List.flatten_cons,List.flatten_nil,List.append_nil];omega)
end
end Go.Proofs.YtjlclkcmfokobaaGreatDoor
namespace Go.Proofs.YtjlclkcmfokobaaGreatDoor
open Go.RowKit Go.WideMaps Go.Maps
set_option maxRecDepth 100000
def KRow(w0 w:World)(v0:Value)(at1:Nat)(xs:List PInst)(v:Value)(ys:List PInst):Prop:=
 (∃A n c,v0=.slice A n c∧v=.slice A at1 at1∧ys=xs.take at1)∨RRow w w0.heap.size 44 4 (CInst w (NT [3] w0)) v ys
section
variable {w0 w w':World} {v0 v:Value} {at1 base:Nat} {xs ys:List PInst}
theorem tr0(hb:Below w0.heap.size w w'):Tr (NT [3] w0) (NT [3] w0) w w':=⟨hb.size,fun b h _=>⟨hb.block b h.lt,h⟩⟩
theorem KRow.turn(h:KRow w0 w v0 at1 xs v ys)(hk:∀k,v.ownBlock=some k→w'.heap[k]?=w.heap[k]?)(hb:Below w0.heap.size w w'):KRow w0 w' v0 at1 xs v ys:=by
 rcases h with h|h
 · exact .inl h
 · exact .inr (RRow.turn h hk fun _ _ h=>h.turn (tr0 hb))
theorem KRow.below(h:KRow w0 w v0 at1 xs v ys)(hb:Below w.heap.size w w')(h0:w0.heap.size≤w.heap.size):KRow w0 w' v0 at1 xs v ys:=by
 rcases h with h|h
 · exact .inl h
 · exact .inr (h.move hb fun _ _ h=>h.turn (tr0 (hb.mono h0)))
theorem KRow.nt(h:KRow w0 w v0 at1 xs v ys)(h0:IRow w base v0 xs){k:Nat}(hk:v.ownBlock=some k):NT [44] w k:=by
 rcases h with⟨A,n,c,rfl,rfl,rfl⟩|h
 · exact h0.nt (by cases A<;>simp[Value.ownBlock]at hk ⊢;exact hk)
 · obtain⟨cells,ho⟩:=h.own
   exact Ydb ho ZS k (YG ho hk).1 hk
theorem KRow.irow(h:KRow w0 w v0 at1 xs v ys)(h0:IRow w base v0 xs)(hb:base≤w0.heap.size)(ha:at1≤xs.length)(h1:Below w0.heap.size w0 w):IRow w base v ys:=by
 rcases h with⟨A,n,c,rfl,rfl,rfl⟩|h
 · obtain⟨A',c',e,h1,-⟩:=h0.form
   simp only[Value.slice.injEq]at e;obtain⟨-,-,rfl⟩:=e;exact h0.cut ha (Nr _) ZO
 · have hkt:KT [3] w0 w:=KT.of_below h1
   exact(IRow.of_rrow (h.imp (C':=CIn w) fun _ _ h=>h.turn ⟨Nr _,fun b hb _=>⟨rfl,hb.same (hkt.blk b hb)⟩⟩)).rebase hb
theorem KRow.own(h:KRow w0 w v0 at1 xs v ys){k:Nat}(hk:v.ownBlock=some k):v0.ownBlock=some k∨w0.heap.size≤k:=by
 rcases h with⟨A,n,c,rfl,rfl,rfl⟩|h
 · exact .inl (by cases A<;>simp[Value.ownBlock]at hk ⊢;exact hk)
 · exact .inr (h.lt hk).1
theorem KRow.form(h:KRow w0 w v0 at1 xs v ys)(ha:at1≤xs.length):∃A c,v=.slice A ys.length c:=by
 rcases h with⟨A,n,c,rfl,rfl,rfl⟩|h
 · exact⟨A,at1,by rw[List.length_take,Nat.min_eq_left ha]⟩
 · exact h.form
theorem KRow.snoc{N:Nat}{y:PInst}{cs:List Value}(h:KRow w0 w v0 at1 xs v ys)(h0:IRow w0 base v0 xs)(hb:w0.heap.size≤w.heap.size)(ha:at1≤xs.length)(hp:0<at1)(hbx:BoxAt w N cs.toArray 44)(hl:cs.length=4)(hy:CInst w (NT [3] w0) cs y)(hn:ys.length<1048576)(h9:Below w0.heap.size w0 w)(ty:TypeId) :
 ∃A c w',(Builtin.append_ #[35,35] ty #[v,.slice (some ⟨N,0,none⟩) 1 1]).run Tryz.prog w=.ok (.slice A (ys.length+1) c) w'∧KRow w0 w' v0 at1 xs (.slice A (ys.length+1) c) (ys++[y])∧Below w0.heap.size w w'∧KT [3] w w':=by
 obtain⟨i,hi,hz,hsz,hby⟩:=info_parts Tryz.info44;have hcell:∀j u,cs[j]?=some u→w.cell? ((⟨N,0,none⟩:Addr).add j)=some u:=fun j u hj=>by
  rw[Addr.add_lit,Nat.zero_add,hbx.cell];simpa using hj
 have h1:=YeA hy;rcases h with⟨A,n,c,rfl,rfl,rfl⟩|h
 · rcases h0 with⟨-,rfl⟩|⟨g,c0,cur,ch,hv,hbg,hh,k1,k2,k3,k4,k5⟩
   · simp at ha
     omega
   · simp only[Value.slice.injEq]at hv
     obtain⟨rfl,rfl,rfl⟩:=hv;replace hh:=hh.below h9 hh.lt;have hlt:(xs.take at1).length=at1:=by rw[List.length_take];omega
     rw[hlt]at hn ⊢;have hk4:=k4.take at1;have hfl:=hk4.flat;rw[hlt]at hfl;have ht1:cur.toList.take (at1*4)=(ch.take at1).flatten:=by rw[← Ydc k4.all,← k5,List.take_take,Nat.min_eq_left ZO]
     have hr:=run_append_grow (P:=Tryz.prog) w 35 ty 44 i _ Tryz.underlying35 hi hz ⟨g,0,none⟩ at1 at1 (ch.take at1).flatten (by rw[hfl,hsz]) (fun j u hj=>by
      rw[Addr.add_lit,Nat.zero_add,hh.cell,← Array.getElem?_toList];have hj4:=(List.getElem?_eq_some_iff.1 hj).1;rw[← ht1,List.getElem?_take,if_pos ZO]at hj
      exact hj) ⟨N,0,none⟩ 1 1 cs (by rw[hl,hsz]) hcell ZO ZO (growslice_fits ZO (by rw[hby];omega))
     have hbl:Below w0.heap.size w (w.drew.alloc (.cells ((ch.take at1).flatten.toArray++cs.toArray++Builtin.zeroCells (Value.agg #[.int .i64 0,.int .i64 0,.slice none 0 0,.int .i64 0]).cells (grownCap w (at1+1) at1 44-(at1+1))) 44)):=(Br _ _).drew.alloc (by simpa using hb) _;refine⟨_,_,_,hr,.inr ?_,hbl,KT.refl.drew.alloc _⟩;refine⟨ch.take at1++[cs],by rw[List.length_append,List.length_append,hk4.1];rfl,fun j c x e1 e2=>?_,?_⟩
     · by_cases hj:j<(ch.take at1).length
       · rw[List.getElem?_append_left hj]at e1
         rw[List.getElem?_append_left (by rw[← hk4.1];exact hj)]at e2;exact⟨(hk4.2 j c x e1 e2).1,(hk4.2 j c x e1 e2).2.turn (tr0 (h9.trans hbl))⟩
       · rw[List.getElem?_append_right ZO]at e1
         rw[List.getElem?_append_right (by rw[← hk4.1];omega),← hk4.1]at e2;obtain⟨n,hn⟩:∃n,j-(ch.take at1).length=n:=⟨_,rfl⟩;rw[hn]at e1 e2;cases n with
         |zero=>simp at e1 e2;subst e1 e2;exact⟨hl,hy.turn (tr0 hbl)⟩
         |succ n=>simp at e1
     · rw[List.length_append,hlt,List.flatten_append,show [cs].flatten=cs from ZS,show([y]:List PInst).length=1 from rfl]
       refine⟨by rw[List.length_append,hfl,hl];omega,.inr ⟨w.heap.size,grownCap w (at1+1) at1 44,_,rfl,hb,heap_alloc_new w.drew _,grownCap_ge w (at1+1) at1 44,grownCap_le_maxLen w (at1+1) at1 44 (by unfold maxLen;omega),?_,?_⟩⟩
       · have hge:=grownCap_ge w (at1+1) at1 44
         simp only[Array.size_append,List.size_toArray,size_zeroCells,hfl,hl,show(Value.agg #[.int .i64 0,.int .i64 0,.slice none 0 0,.int .i64 0]).cells.size=4 from rfl];omega
       · simp only[Array.toList_append,List.append_assoc]
         rw[← List.append_assoc];exact List.take_left' (by rw[List.length_append,hfl,hl];omega)
 · obtain⟨cells,ho⟩:=h.own
   obtain⟨v',w',hr,h2,h3,-,h4⟩:=run_append_own_at (P:=Tryz.prog) w w0.heap.size 35 ty 44 i _ 4 48 Tryz.underlying35 hi hz hsz hby rfl ZD v ys.length cells ho ⟨N,0,none⟩ 1 1 cs (by rw[hl]) hcell h1 (by unfold maxLen;omega) ZO hb;obtain⟨A,c,rfl⟩:=Yp h2;have hkt:KT [3] w w':=KT.refl.grown ho ZS h3;have hbl:Below w0.heap.size w w':=⟨h3.os,h3.tape,h3.output,h3.size,fun k hk=>h3.block k ZO (fun e=>by have:=(YG ho e.symm).1;omega)⟩;exact⟨A,c,w',hr,.inr (h.snoc ho h2 hl (fun _ _ h=>h.turn (tr0 hbl)) (hy.turn (tr0 hbl))),hbl,hkt⟩
end
def KM(w:World)(gm n:Nat)(k:Int→Option Int):Prop:=∃D:DataW Unit,w.ownsMap Tryz.prog 3 (plainElem Tryz.prog 2) gm n D∧Maps.IsMap D∧
 ∀v:Int,(Lit.int .i64 v).wf=true→Maps.has D (.int .i64 v)=(k v).isSome∧D.atKey (.int .i64 v) (.lit (.int .i64 0))=.lit (.int .i64 ((k v).getD 0))
theorem KM.turn{w w':World}{gm n:Nat}{k:Int→Option Int}(h:KM w gm n k)(hg:w'.heap[gm]?=w.heap[gm]?):KM w' gm n k:=by
 obtain⟨D,⟨es,clock,hb,r⟩,h2⟩:=h;exact⟨D,⟨es,clock,hg.trans hb,r⟩,h2⟩
theorem KM.lt{w:World}{gm n:Nat}{k:Int→Option Int}(h:KM w gm n k):gm<w.heap.size:=by
 obtain⟨D,h1,-⟩:=h;exact h1.lt
theorem KM.ne{w:World}{gm n g:Nat}{k:Int→Option Int}{cs:Array Value}{t:TypeId}(h:KM w gm n k)(hb:BoxAt w g cs t):gm≠g:=by
 rintro rfl;obtain⟨D,⟨es,clock,h1,-⟩,-⟩:=h;unfold BoxAt at hb;rw[h1]at hb;cases hb
theorem YeB:Maps.Keyed Tryz.prog 3:=int_keyed Tryz.underlying3
theorem Ym7(w:World):(zeroValue 2).run Tryz.prog w=.ok (.int .i64 0) w:=by kernel_rfl
theorem YeC{v:Int}(h:(Lit.int .i64 v).wf=true):keyOf Tryz.prog 3 (.int .i64 v)=some (.int .i64 v):=keyOf_int_mk Tryz.underlying3 h
theorem KM.made(w:World):KM (w.alloc (.map #[] 0)) w.heap.size 0 (fun _=>none):=⟨.map [],World.ownsMap_made _ _ _ _,⟨_,rfl⟩,fun _ _=>⟨rfl,rfl⟩⟩
theorem KM.look{w:World}{gm n:Nat}{k:Int→Option Int}(h:KM w gm n k){v:Int}(hv:(Lit.int .i64 v).wf=true) :
 (Instr.lookup 79 (.map (some gm)) (.int .i64 v) true).run Tryz.prog w=.ok (.tuple #[.int .i64 ((k v).getD 0),.bool (k v).isSome]) w:=by
 obtain⟨D,h1,-,h2⟩:=h;obtain⟨u,ps,hrun,hu⟩:=h1.look_ok YeB Tryz.underlying79 (Ym7 _) (plainElem_int Tryz.underlying2 ZD) (YeC hv);obtain⟨c,rfl,hc,-⟩:=plainElem_int_inv Tryz.underlying2 hu;obtain⟨e1,e2⟩:=h2 v hv;rw[e2]at hc;simp only[Prod.mk.injEq,DataW.lit.injEq,Lit.int.injEq,true_and]at hc;rw[hrun,e1,hc.1]
theorem Ym8(w:World){ops:Array Oper}{rest:List Oper}{o:Oper}{a:Act}{Q:Exit→Act→World→Prop}
 (hg:o.guard=none) (m x v:Operand) (hop:o.op=Op.mapUpdate 79 m x v) {gm n:Nat} {k:Int→Option Int} (hm:a.eval m=.map (some gm)) (h:KM w gm n k) (hn:n<maxLen)
 (d:Int) (hd:(Lit.int .i64 d).wf=true) (hx:a.eval x=.int .i64 d) (c:Int) (hv:a.eval v=.int .i64 c) (hc:(Lit.int .i64 c).wf=true)
 (hK:∀w',KM w' gm (n+1) (fun t=>if t=d then some c else k t)→w.grownBy w' (some gm)→wpList Tryz.prog ops Q rest (a.put o.dst undef) w'):wpList Tryz.prog ops Q (o::rest) a w:=by
 obtain⟨D,h1,h2,h3⟩:=h;refine wpList_mapUpdate_own w hg m x v 79 hop 3 2 YeB Tryz.underlying79 _ gm n D hm h1 hn _ _ _ hx hv (YeC hd) _ [] (plainElem_int Tryz.underlying2 hc) ?_;intro w' h4 hg';refine hK w' ⟨_,h4,Maps.IsMap.put h2 _ _,fun t ht=>?_⟩ hg'
 by_cases e:t=d
 · subst e
   show _=(if t=t then some c else k t).isSome∧_=DataW.lit (.int .i64 ((if t=t then some c else k t).getD 0));rw[if_pos rfl];exact⟨Maps.has_put_same h2 (YeB.key (YeC ht)) _,Maps.atKey_put_same h2 (YeB.key (YeC ht)) _ _⟩
 · show _=(if t=d then some c else k t).isSome∧_=DataW.lit (.int .i64 ((if t=d then some c else k t).getD 0))
   have hne:(Lit.int .i64 t)≠Lit.int .i64 d:=fun e2=>e (by injection e2)
   rw[if_neg e,Maps.has_put_other hne,Maps.atKey_put_other hne];exact h3 t ht
theorem YqG(w:World){ops:Array Oper}{rest:List Oper}{o:Oper}{a:Act}{Q:Exit→Act→World→Prop}(hg:o.guard=none)(m x:Operand)(t:TypeId)(c:Bool)(hop:o.op=Op.lookup t m x c){b:Nat}
 {key r:Value} (hm:a.eval m=.map (some b)) (hx:a.eval x=key) (hrun:(Instr.lookup t (.map (some b)) key c).run Tryz.prog w=.ok r w) (h:wpList Tryz.prog ops Q rest (a.put o.dst r) w):wpList Tryz.prog ops Q (o::rest) a w:=by
 refine wpList_plain hg fun K hK=>?_
 unfold Oper.wp;simp[execOp,hop,hm,hx,hrun,Result.andThen];exact hK _ _ h
def CBI(w:World)(base:Nat)(cs:List Value)(x:PBlock×Value×Value):Prop:=
 cs=[.string x.1.name,x.2.1,x.2.2,.int .i64 x.1.term.kind,.int .i64 x.1.term.var,.int .i64 x.1.term.t0,.int .i64 x.1.term.t1]∧x.1.name.size≤maxLen∧
  RRow w base 76 3 (CPh w) x.2.1 x.1.phis∧IRow w base x.2.2 x.1.insts
theorem CBI.kt{ts:List TypeId}{w w':World}{base:Nat}(hk:KT ts w w')(hi:3∈ts)(hp:76∈ts)(hn:44∈ts){cs:List Value}{x:PBlock×Value×Value}(h:CBI w base cs x):CBI w' base cs x:=
 ⟨h.1,h.2.1,h.2.2.1.kt hk hp fun _ _ h=>h.kt hk hi,h.2.2.2.kt hk hn hi⟩
structure MgM (F:PFunc) (k:Int→Option Int) (w:World) (base gw gb cap gm:Nat) (vv vp:Value) (qs:List (PBlock×Value×Value)):Prop where
 box:BoxAt w gw #[vv,vp,.slice (some ⟨gb,0,none⟩) qs.length cap,.map (some gm)] 81
 hV:RRow w base 50 2 Ybr vv F.vars
 hI:w.ownsRow base 3 1 vp F.params.length (F.params.map (Value.int .i64))
 hq:RRow w base 41 7 (CBI w base) (.slice (some ⟨gb,0,none⟩) qs.length cap) qs
 pw:qs.Pairwise fun x y=>Apart x.2.2 y.2.2
 km:∃n,KM w gm n k
section
variable {F:PFunc} {k:Int→Option Int} {w w':World} {base gw gb cap gm i:Nat} {vv vp:Value} {qs:List (PBlock×Value×Value)} {b:PBlock} {v1 v2:Value}
theorem MgM.below(h:MgM F k w base gw gb cap gm vv vp qs)(hb:Below w.heap.size w w'):MgM F k w' base gw gb cap gm vv vp qs:=by
 have hk:KT [3,76,44,41,50] w w':=KT.of_below hb;obtain⟨n,hm⟩:=h.km;exact⟨h.box.below hb h.box.lt,h.hV.move hb (fun _ _ h=>h),Yu h.hI hb,h.hq.kt hk ZS (fun _ _ h=>CBI.kt hk ZS ZS ZS h),h.pw,n,hm.turn (hb.block gm hm.lt)⟩
theorem MgM.rows(h:MgM F k w base gw gb cap gm vv vp qs)(hi:qs[i]?=some (b,v1,v2)):IRow w base v2 b.insts∧gb<w.heap.size∧base≤gb∧(∃cur,BoxAt w gb cur 41)∧
 w.cell? ⟨gb,i*7,none⟩=some (.string b.name)∧w.cell? ⟨gb,i*7+1,none⟩=some v1∧w.cell? ⟨gb,i*7+2,none⟩=some v2∧w.cell? ⟨gb,i*7+3,none⟩=some (.int .i64 b.term.kind)∧w.cell? ⟨gb,i*7+4,none⟩=some (.int .i64 b.term.var)∧w.cell? ⟨gb,i*7+5,none⟩=some (.int .i64 b.term.t0)∧w.cell? ⟨gb,i*7+6,none⟩=some (.int .i64 b.term.t1):=by
 obtain⟨hl,he⟩:=List.getElem?_eq_some_iff.1 hi;obtain⟨g',cap',cs,hv,-,hb,hgl,-,-,hc,e1,-,h1,h2⟩:=h.hq.cells hl;simp only[Value.slice.injEq,Option.some.injEq,Addr.mk.injEq,and_true]at hv;obtain⟨rfl,-,rfl⟩:=hv;rw[he]at e1 h1 h2;obtain⟨cells,hO⟩:=h.hq.own;subst e1;exact⟨h2,hgl,hb,YfK hO,by simpa using hc 0 _ rfl,hc 1 _ rfl,hc 2 _ rfl,hc 3 _ rfl,hc 4 _ rfl,hc 5 _ rfl,hc 6 _ rfl⟩
theorem Yie{q q':PBlock×Value×Value}{N:Nat}(h:qs.Pairwise fun x y=>Apart x.2.2 y.2.2)(hq:qs[i]?=some q)(hN:∀x∈qs,∀k,x.2.2.ownBlock=some k→k<N)(ho:∀k,q'.2.2.ownBlock=some k→q.2.2.ownBlock=some k∨N≤k):(qs.set i q').Pairwise fun x y=>Apart x.2.2 y.2.2:=by
 obtain⟨hl,he⟩:=List.getElem?_eq_some_iff.1 hq;rw[List.pairwise_iff_getElem]at h ⊢;intro a c ha hc hac;simp only[List.length_set]at ha hc;have h0:=h a c ha hc hac;intro k h1 h2;rw[List.getElem_set]at h1 h2;split at h1
 · rename_i e
   rw[if_neg ZO]at h2;rcases ho k h1 with e2|e2
   · subst e
     rw[← he]at e2;exact h0 k e2 h2
   · have:=hN _ (List.getElem_mem hc) k h2
     omega
 · split at h2
   · rename_i e
     rcases ho k h2 with e2|e2
     · subst e
       rw[← he]at e2;exact h0 k h1 e2
     · have:=hN _ (List.getElem_mem ha) k h1
       omega
   · exact h0 k h1 h2
theorem MgM.turn(h:MgM F k w base gw gb cap gm vv vp qs)(hi:qs[i]?=some (b,v1,v2)){ys:List PInst}(hk:Kp (fun c=>v2.ownBlock≠some c) w w')(hr:IRow w' base v2 ys):MgM F k w' base gw gb cap gm vv vp (qs.set i ({ b with insts:=ys },v1,v2)):=by
 obtain⟨hR2,-⟩:=h.rows hi;obtain⟨hl,he⟩:=List.getElem?_eq_some_iff.1 hi;have hne:∀c,NT [3,76,41,50,81] w c→v2.ownBlock≠some c:=fun c hc e=>by
  obtain⟨cs1,t1,a1,a2⟩:=hR2.nt e;obtain⟨cs2,t2,b1,b2⟩:=hc;rw[a1]at b1;cases b1;simp at a2;subst a2;simp at b2
 have hkt:KT [3,76,41,50,81] w w':=⟨hk.size,fun c hc=>hk.blk c (hne c hc) hc.lt⟩;have hki:KT [3] w w':=⟨hkt.size,fun c hc=>hkt.blk c (hc.mono ZS)⟩;obtain⟨n,hm⟩:=h.km;have hgm:v2.ownBlock≠some gm:=fun e=>by
  obtain⟨cs1,t1,a1,-⟩:=hR2.nt e;exact hm.ne a1 rfl
 refine⟨?_,h.hV.kt hkt ZS (fun _ _ h=>h),YaT h.hI hkt ZS,?_,?_,n,hm.turn (hk.blk gm hgm hm.lt)⟩
 · rw[List.length_set]
   exact(hkt.blk gw ⟨_,_,h.box,ZS⟩).trans h.box
 · rw[List.length_set]
   obtain⟨cells,hO⟩:=h.hq.own;obtain⟨ch,hcl,hc,hown⟩:=h.hq;refine⟨ch,by rw[List.length_set];exact hcl,fun j cs x e1 e2=>?_,by rw[List.length_set];exact YaT hown hkt ZS⟩
   by_cases hj:i=j
   · subst hj
     rw[List.getElem?_set_self hl]at e2;cases e2;obtain⟨s1,s2,s3,s4,s5⟩:=hc i cs _ e1 hi;exact⟨s1,s2,s3,s4.kt hkt ZS (fun _ _ h=>h.kt hkt ZS),hr⟩
   · rw[List.getElem?_set_ne hj]at e2
     obtain⟨s1,s2,s3,s4,s5⟩:=hc j cs x e1 e2;refine⟨s1,s2,s3,s4.kt hkt ZS (fun _ _ h=>h.kt hkt ZS),s5.turn (fun c ec=>hk.blk c (fun e=>?_) (s5.lt ec).2) hki⟩;obtain⟨hjl,hje⟩:=List.getElem?_eq_some_iff.1 e2;have hp:=List.pairwise_iff_getElem.1 h.pw;rcases Nat.lt_or_gt_of_ne hj with hlt|hlt
     · have:=hp i j hl hjl hlt
       rw[he,hje]at this;exact this c e ec
     · have:=hp j i hjl hl hlt
       rw[he,hje]at this;exact this c ec e
 · refine Yie (N:=w.heap.size) h.pw hi (fun x hx k hk=>?_) (fun k hk=>.inl hk)
   obtain⟨cs,hc⟩:=h.hq.all_ x hx;exact(hc.2.2.2.lt hk).2
theorem MgM.setI(h:MgM F k w base gw gb cap gm vv vp qs)(hi:qs[i]?=some (b,v1,v2)){ys:List PInst}{v':Value}{N:Nat}(hr:IRow w base v' ys)(hN:∀x∈qs,∀k,x.2.2.ownBlock=some k→k<N)(ho:∀k,v'.ownBlock=some k→v2.ownBlock=some k∨N≤k) :
 MgM F k (w.setCell ⟨gb,i*7+2,none⟩ v') base gw gb cap gm vv vp (qs.set i ({ b with insts:=ys },v1,v')):=by
 obtain⟨hl,he⟩:=List.getElem?_eq_some_iff.1 hi;obtain⟨cells,hO⟩:=h.hq.own;obtain⟨cur,hbg⟩:=YfK hO;have hks:KT [3,76,44,50,81] w (w.setCell ⟨gb,i*7+2,none⟩ v'):=KT.refl.setCell hbg ZS _;obtain⟨n,hm⟩:=h.km;refine⟨?_,h.hV.kt hks ZS (fun _ _ h=>h),YaT h.hI hks ZS,?_,Yie h.pw hi hN ho,n,hm.turn (Yci (hm.ne hbg))⟩
 · rw[List.length_set]
   exact(hks.blk gw ⟨_,_,h.box,ZS⟩).trans h.box
 · rw[List.length_set]
   refine RRow.putJ h.hq hl ZD (fun k cs x hne hx hc=>?_) fun cs hc=>?_
   · exact CBI.kt hks ZS ZS ZS hc
   · rw[he]at hc
     obtain⟨e1,e2,e3,-⟩:=hc;rw[e1];exact⟨rfl,e2,e3.kt hks ZS (fun _ _ h=>h.kt hks ZS),hr.kt hks ZS ZS⟩
theorem MgM.bound(h:MgM F k w base gw gb cap gm vv vp qs):∀x∈qs,∀k,x.2.2.ownBlock=some k→k<w.heap.size:=fun x hx k hk=>by
 obtain⟨cs,hc⟩:=h.hq.all_ x hx;exact(hc.2.2.2.lt hk).2
end
end Go.Proofs.YtjlclkcmfokobaaGreatDoor
namespace Go.Proofs.YtjlclkcmfokobaaGreatDoor
open Go.RowKit
set_option maxRecDepth 100000
def Yb9(k:Int→Option Int)(x:PInst):Int→Option Int:=if x.op=0 then fun t=>if t=x.dst then some x.num else k t else k
def YeH(k:Int→Option Int)(b:PBlock):Int→Option Int:=b.insts.foldl Yb9 k
def kF(F:PFunc):Int→Option Int:=F.blocks.foldl YeH fun _=>none
def kAt(F:PFunc)(i j:Nat):Int→Option Int:=((F.blk i).insts.take j).foldl Yb9 ((F.blocks.take i).foldl YeH fun _=>none)
def Ybj(k:Int→Option Int)(b:PBlock):PBlock:={ b with insts:=mrgL k b.insts }
def mrgF(F:PFunc):PFunc:={ F with blocks:=F.blocks.map (Ybj (kF F)) }
section
variable {F:PFunc} {k:Int→Option Int} {i j:Nat}
theorem Yoz:kAt F 0 0=fun _=>none:=rfl
theorem YoA(hj:j<(F.blk i).insts.length):kAt F i (j+1)=Yb9 (kAt F i j) ((F.blk i).inst j):=by
 unfold kAt;rw[List.take_add_one,PBlock.inst_get hj,List.foldl_append];rfl
theorem YoB(hi:i<F.blocks.length):kAt F i (F.blk i).insts.length=kAt F (i+1) 0:=by
 unfold kAt;rw[List.take_length,List.take_zero,List.take_add_one,PFunc.blk_get hi,List.foldl_append];rfl
theorem YoC:kAt F F.blocks.length 0=kF F:=by
 unfold kAt kF;rw[List.take_zero,List.take_length];rfl
theorem Ygq:∀{n:Nat} {l:List PInst},l.length≤n→(mrgL k l).length≤l.length
 |_,[],_=>by simp[YbN]
 |0,x::l,h=>by simp at h
 |n+1,x::l,h=>by
  have h1:=Ybm (k:=k) (x:=x) (l:=l);simp only[List.length_cons]at h ⊢;have h2:=Ygq (n:=n) (l:=(mrgS k x l).2) ZO;rw[Ybn,List.length_append];omega
theorem YiX:∀{n:Nat} {l:List PInst} {m:PInst},l.length≤n→m∈mrgL k l→m∈l∨∃a v,m=chk a v
 |_,[],m,_,h=>by simp[YbN]at h
 |0,x::l,m,h,_=>by simp at h
 |n+1,x::l,m,h,hm=>by
  have h1:=Ybm (k:=k) (x:=x) (l:=l);simp only[List.length_cons]at h;rw[Ybn]at hm;have hS:m∈(mrgS k x l).1++(mrgS k x l).2→m∈x::l∨∃a v,m=chk a v:=fun h=>by
   rcases Yfg h with rfl|h|⟨b,_,rfl⟩
   · exact .inl ZS
   · exact .inl (by simp[h])
   · exact .inr ⟨_,_,rfl⟩
  rcases List.mem_append.1 hm with h2|h2
  · exact hS (List.mem_append_left _ h2)
  · rcases YiX (n:=n) ZO h2 with h3|h3
    · exact hS (List.mem_append_right _ h3)
    · exact .inr h3
theorem YiY(h:Bnd F):Bnd (mrgF F):=by
 have hb:∀b∈(mrgF F).blocks,∃a∈F.blocks,Ybj (kF F) a=b:=fun b hb=>List.mem_map.1 hb
 refine⟨h.vars,h.params,by simpa[mrgF]using h.blocks,fun b hb'=>?_,fun b hb' p hp=>?_,fun b hb' x hx=>?_⟩
 · obtain⟨a,ha,rfl⟩:=hb b hb'
   have:=h.parts a ha;exact⟨this.1,Nat.le_trans (Ygq (Nr _)) this.2⟩
 · obtain⟨a,ha,rfl⟩:=hb b hb'
   exact h.pairs a ha p hp
 · obtain⟨a,ha,rfl⟩:=hb b hb'
   rcases YiX (Nr _) hx with h1|⟨u,v,rfl⟩
   · exact h.args a ha x h1
   · show [u,v].length≤100000
     simp
theorem YeI(hT:Yd F=true)(hS:F.vars.length≤1048575)(hi:i<F.blocks.length):∀x∈(F.blk i).insts,OkI x:=fun x hx=>by
 have h1:=(Ybd (Yx hT) hi).2.1 x hx;unfold Ym Yaq at h1;simp only[Bool.and_eq_true]at h1;obtain⟨⟨⟨⟨ho,hl⟩,hv⟩,hd⟩,hn⟩:=h1;have ho':=YQ ho;refine⟨ho'.1,ZO,fun h=>?_⟩;rw[h]at hl;have hl2:x.args.length=2:=by have:=of_decide_eq_true hl;rw[this];decide +kernel
 have hd2:x.dst=-1:=by
  unfold YaX at hd;rw[if_neg (by rw[h];decide +kernel)]at hd;simpa using hd
 have hn2:x.num=0:=by simpa[h]using hn
 obtain⟨o,d,ag,nu⟩:=x;simp only at h hl2 hd2 hn2 hv;obtain⟨a,v,rfl⟩:∃a v,ag=[a,v]:=by
  match ag,hl2 with
  |[a,v],_=>exact⟨a,v,rfl⟩
 unfold Yw at hv;have h3:=YQ (List.all_eq_true.1 hv v ZS);exact⟨a,v,by rw[h,hd2,hn2];rfl,h3.1,ZO⟩
theorem Ygr(hT:Yd F=true)(hi:i<F.blocks.length):(F.blk i).insts.length≤1024:=by
 have h:=YfP hT (n:=i+1) hi;rw[evs,List.length_append,Yah,List.length_append,Ycl,Yc8]at h;omega
theorem Ygs(hT:Yd F=true)(hi:i<F.blocks.length):∀x∈(F.blk i).insts,-1≤x.dst∧x.dst<F.vars.length:=fun x hx=>by
 have h1:=(Ybd (Yx hT) hi).2.1 x hx;unfold Ym YaX at h1;simp only[Bool.and_eq_true]at h1;have h2:=h1.1.2;split at h2
 · have:=YQ h2
   omega
 · have:=of_decide_eq_true h2
   omega
theorem YiZ{p:PInst→Bool}(b:PBlock):∀n,n≤b.insts.length→((b.insts.take n).filter p).length=(((List.range n).filter fun j=>p (b.inst j))).length
 |0,_=>rfl
 |n+1,h=>by
  rw[List.range_succ,List.filter_append,List.length_append,List.take_add_one,PBlock.inst_get ZO,List.filter_append,List.length_append,YiZ b n ZO];congr 1;cases hp:p (b.inst n)<;>simp[hp]
theorem YoD(hT:Yd F=true)(hO:Yr F=true)(hi:i<F.blocks.length):OnceL (F.blk i).insts:=fun v hv=>by
 by_cases h1:v<F.vars.length
 · have h2:=Yb6 hO hv h1
   obtain⟨r,hr⟩:=Yeo (F:=F) (i:=i+1) (j:=F.blocks.length) hi;unfold evF at h2;rw[hr,evs,Yah,YaP,YaP,YaP]at h2;simp only[List.length_append]at h2;have h3:(mkOf (evIns F i (F.blk i).insts.length) v).length=((F.blk i).insts.filter fun y=>decide (y.dst=v)).length:=by
    have h4:=YiZ (p:=fun y=>decide (y.dst=v)) (F.blk i) (F.blk i).insts.length (Nr _);rw[List.take_length]at h4;rw[h4];unfold mkOf evIns;rw[List.length_map,List.filter_map,List.length_map];congr 1
   omega
 · have h0:((F.blk i).insts.filter fun y=>decide (y.dst=v))=[]:=List.filter_eq_nil_iff.2 fun y hy=>by
    obtain⟨j,hj,e⟩:=List.getElem_of_mem hy;have h3:=(YdJ hT hi hj).1;rw[show(F.blk i).inst j=y by simp[PBlock.inst,List.getD,hj,e]]at h3;simp;omega
   rw[h0];simp
end
section
variable {F G:PFunc} {k k':Int→Option Int} {w w':World} {base gw gb cap gm i n':Nat} {vv vp:Value} {qs:List (PBlock×Value×Value)}
theorem MgM.kput(h:MgM F k w base gw gb cap gm vv vp qs)(hg:w.grownBy w' (some gm))(hm:KM w' gm n' k'):MgM F k' w' base gw gb cap gm vv vp qs:=by
 obtain⟨n,hk⟩:=h.km
 have hkt:KT [3,76,44,41,50,81] w w':=⟨hg.size,fun b hb=>hg.block b hb.lt (fun e=>by
  cases e;obtain⟨cs,t,h1,-⟩:=hb
  exact hk.ne h1 rfl)⟩
 exact⟨(hkt.blk gw ⟨_,_,h.box,ZS⟩).trans h.box,h.hV.kt hkt ZS (fun _ _ h=>h),YaT h.hI hkt ZS,h.hq.kt hkt ZS (fun _ _ h=>CBI.kt hkt ZS ZS ZS h),h.pw,_,hm⟩
theorem MgM.fn(hV:RRow w base 50 2 Ybr vv F.vars)(hI:w.ownsRow base 3 1 vp F.params.length (F.params.map (Value.int .i64))){vb:Value}(hq:RRow w base 41 7 (CBI w base) vb qs)
 (he:qs.map Prod.fst=G.blocks) (h0:G.vars=F.vars) (h1:G.params=F.params) (hB:Bnd G):FnV w w.heap.size (.agg #[vv,vp,vb]) G:=by
 have hv:=hB.vars;have hp:=hB.params;refine⟨vv,vp,vb,rfl,by rw[h0]at hv ⊢;exact DVars.rd (D:=fun _=>True) (hV.done ZO (fun _ _ _=>trivial)) (fun _ h _=>h),by rw[h1]at hp ⊢;exact DInts.rd (D:=fun _=>True) (DInts.of_own hI ZO (fun _ _ _=>trivial)) (fun _ h _=>h),?_⟩;have hn:qs.length≤1048576:=by have:=hB.blocks;rw[← he,List.length_map]at this;omega
 obtain⟨A,c,rfl,hl,hc,hr⟩:=hq.done (D:=fun _=>True) hn (fun _ _ _=>trivial);rw[← he];refine⟨A,c,by rw[List.length_map],by rw[List.length_map];exact hl,by rw[List.length_map];exact hc,fun i x hx=>?_⟩;rw[List.getElem?_map]at hx;obtain⟨p,hx2,rfl⟩:=Option.map_eq_some_iff.1 hx;obtain⟨b,off,cs,ha,-,hb,-,hcells,rfl,hz,h1,h2⟩:=hr i p hx2;have hm:p.1∈G.blocks:=by rw[← he];exact List.mem_map_of_mem (List.mem_of_getElem? hx2)
 have:=hB.parts _ hm;exact⟨b,off,ha,hb,hz,hcells 0 _ rfl,⟨_,hcells 1 _ rfl,Yh4 h1 ZO⟩,⟨_,hcells 2 _ rfl,h2.sinsts ZO⟩,hcells 3 _ rfl,hcells 4 _ rfl,hcells 5 _ rfl,hcells 6 _ rfl⟩
theorem CBO.cbi{base:Nat}{cs:List Value}{x:PBlock×Value×Value}(h:CBO w base cs x):CBI w base cs x:=⟨h.1,h.2.1,h.2.2.1,IRow.of_rrow h.2.2.2⟩
end
def mvP(u vb:Int)(y:PInst):Bool:=decide (vb≠u)&&decide (y.dst=vb)
section
variable {k:Int→Option Int} {x:PInst} {l:List PInst}
theorem Yca(h:fixP k x=none):mrgS k x l=([x],l):=by
 unfold mrgS;rw[h]
theorem Ygu{b:Int}(h:fixP k x=some b){g:List PInst×Int×Int}(hg:g=gat k (ith x.args 0) (Yl l) b (ith x.args 1) l l.length) :
 mrgS k x l=(g.1.filter (mvP (ith x.args 1) g.2.2)++[chk (ith x.args 0) g.2.2],g.1.filter fun y=>!mvP (ith x.args 1) g.2.2 y):=by
 unfold mrgS;rw[h];simp only[];rw[← hg];unfold mvP
 by_cases hv:g.2.2=ith x.args 1
 · rw[if_pos hv]
   have e:g.1.filter (fun _=>true)=g.1:=List.filter_eq_self.2 fun _ _=>rfl
   simp[hv,e]
 · rw[if_neg hv]
   simp[hv]
end
section
variable {t:Int}
theorem Yi3:∀{L:List PInst} {k:Int→Option Int} {n:Int},L.foldl Yb9 k t=some n→k t=some n∨∃y∈L,y.op=0∧y.dst=t∧y.num=n
 |[],_,_,h=>.inl h
 |x::L,k,n,h=>by
  rcases Yi3 (L:=L) h with h1|⟨y,hy,r⟩
  · unfold Yb9 at h1
    by_cases h0:x.op=0
    · rw[if_pos h0]at h1
      by_cases h3:t=x.dst
      · exact .inr ⟨x,ZS,h0,h3.symm,by simpa[h3]using h1⟩
      · exact .inl (by simpa[h3]using h1)
    · rw[if_neg h0]at h1
      exact .inl h1
  · exact .inr ⟨y,List.mem_cons_of_mem _ hy,r⟩
theorem Yi4:∀{L:List PInst} {k:Int→Option Int},L.foldl Yb9 k t=none→k t=none∧∀y∈L,y.op=0→y.dst≠t
 |[],_,h=>⟨h,fun _ hy=>by cases hy⟩
 |x::L,k,h=>by
  obtain⟨h1,h2⟩:=Yi4 (L:=L) h;unfold Yb9 at h1
  by_cases h0:x.op=0
  · rw[if_pos h0]at h1
    by_cases h3:t=x.dst
    · simp[h3]at h1
    · refine⟨by simpa[h3]using h1,fun y hy hy0=>?_⟩
      rcases List.mem_cons.1 hy with rfl|hy
      · exact fun e=>h3 e.symm
      · exact h2 y hy hy0
  · rw[if_neg h0]at h1
    refine⟨h1,fun y hy hy0=>?_⟩;rcases List.mem_cons.1 hy with rfl|hy
    · exact absurd hy0 h0
    · exact h2 y hy hy0
theorem YdW:∀{B:List PBlock} {k:Int→Option Int} {n:Int},B.foldl YeH k t=some n→k t=some n∨∃b∈B,∃y∈b.insts,y.op=0∧y.dst=t∧y.num=n
 |[],_,_,h=>.inl h
 |b::B,k,n,h=>by
  rcases YdW (B:=B) h with h1|⟨c,hc,r⟩
  · rcases Yi3 h1 with h2|r
    · exact .inl h2
    · exact .inr ⟨b,ZS,r⟩
  · exact .inr ⟨c,List.mem_cons_of_mem _ hc,r⟩
theorem YeK:∀{B:List PBlock} {k:Int→Option Int},B.foldl YeH k t=none→k t=none∧∀b∈B,∀y∈b.insts,y.op=0→y.dst≠t
 |[],_,h=>⟨h,fun _ hy=>by cases hy⟩
 |b::B,k,h=>by
  obtain⟨h1,h2⟩:=YeK (B:=B) h;obtain⟨h3,h4⟩:=Yi4 h1;refine⟨h3,fun c hc=>?_⟩;rcases List.mem_cons.1 hc with rfl|hc
  · exact h4
  · exact h2 c hc
end
def Y0(F:PFunc)(v:Int):PInst:=if(Yi F v).1<0∨(Yi F v).2<0 then⟨0,-1,[],0⟩ else(F.blk (Yi F v).1.toNat).inst (Yi F v).2.toNat
def Yav(F:PFunc)(x:PInst):Int:=if x.op=18 then(if(Y0 F (ith x.args 1)).dst<0∨(Y0 F (ith x.args 1)).op≠0∨(Y0 F (ith x.args 1)).num<0 then -1 else(Y0 F (ith x.args 1)).num) else -1
section
variable {F:PFunc} {v:Int} {i k:Nat}
theorem YoR:Yi F v=(-1,0)∨∃(i:Nat) (a:Int),Yi F v=((i:Int),a)∧Yas F v i a:=by
 unfold Yi;cases hm:mkOf (evF F) v with
 |nil=>exact .inl rfl
 |cons p r=>
  have hp:p∈mkOf (evF F) v:=by rw[hm];simp
  unfold mkOf at hp;rw[List.mem_map]at hp;obtain⟨e,he,rfl⟩:=hp;obtain⟨h1,h2⟩:=List.mem_filter.1 he;refine .inr ⟨e.blk,e.pos,rfl,YfR.2 ?_⟩;have h2:e.dst=v:=by simpa using h2
  rw[← h2];exact h1
theorem Yi5:Yi F v=(-1,0)∨(∃i:Nat,i<F.blocks.length∧Yi F v=((i:Int),-1))∨∃i k:Nat,i<F.blocks.length∧k<(F.blk i).insts.length∧Yi F v=((i:Int),(k:Int))∧((F.blk i).inst k).dst=v:=by
 rcases YoR (F:=F) (v:=v)with h|⟨i,a,h,hi,⟨rfl,-⟩|⟨k,hk,rfl,hd⟩⟩
 · exact .inl h
 · exact .inr (.inl ⟨i,hi,h⟩)
 · exact .inr (.inr ⟨i,k,hi,hk,h,hd⟩)
theorem Ygv(h:Yi F v=(-1,0)):Y0 F v=⟨0,-1,[],0⟩:=by
 unfold Y0;rw[h,if_pos (.inl ZD)]
theorem Ygw(h:Yi F v=((i:Int),-1)):Y0 F v=⟨0,-1,[],0⟩:=by
 unfold Y0;rw[h,if_pos (.inr (show(-1:Int)<0 from ZD))]
theorem Ygx(h:Yi F v=((i:Int),(k:Int))):Y0 F v=(F.blk i).inst k:=by
 unfold Y0;rw[h,if_neg (by simp only[];omega)];simp
theorem YoS(hT:Yd F=true)(hO:Yr F=true)(h0:0≤v):kF F v=if(Y0 F v).dst<0∨(Y0 F v).op≠0 then none else some (Y0 F v).num:=by
 cases hk:kF F v with
 |none=>
  obtain⟨-,h1⟩:=YeK hk;rcases Yi5 (F:=F) (v:=v)with h|⟨i,-,h⟩|⟨i,k,hi,hk,h,hd⟩
  · rw[Ygv h];rfl
  · rw[Ygw h];rfl
  · rw[Ygx h,if_pos (.inr fun e=>h1 _ (Y4 hi) _ (Yar hk) e hd)]
 |some n=>
  rcases YdW hk with h|⟨b,hb,y,hy,e1,e2,e3⟩
  · cases h
  · obtain⟨i,hi,rfl⟩:=List.getElem_of_mem hb
    obtain⟨k,hk,rfl⟩:=List.getElem_of_mem hy;have eb:F.blocks[i]=F.blk i:=by simp[PFunc.blk,List.getD,hi]
    rw[eb]at hk;have ei:(F.blocks[i].insts)[k]'(by rw[eb];exact hk)=(F.blk i).inst k:=by simp[PBlock.inst,List.getD,hk,eb]
    rw[ei]at e1 e2 e3;have hlt:=(Ygs hT hi _ (Yar hk)).2;have hm:=Ycm (Yb6 hO h0 ZO) (⟨hi,.inr ⟨k,hk,rfl,e2⟩⟩:Yas F v i (k:Int));rw[Ygx hm,if_neg ZO,e3]
theorem Yi6(hT:Yd F=true)(hO:Yr F=true){x:PInst}(hx:ShC x):Yav F x=(fixP (kF F) x).getD (-1):=by
 unfold Yav fixP
 by_cases h:x.op=18
 · obtain⟨a,u,e,h0⟩:=hx h
   rw[if_pos h,if_pos h];have hv:0≤ith x.args 1:=by rw[e];exact h0
   rw[YoS hT hO hv];generalize Y0 F (ith x.args 1)=m
   by_cases h1:m.dst<0∨m.op≠0
   · rw[if_pos h1,if_pos ZO]
     rfl
   · rw[if_neg h1]
     by_cases h2:m.num<0
     · rw[if_pos ZO]
       simp[Int.not_le.2 h2]
     · rw[if_neg ZO]
       simp[Int.not_lt.1 h2]
 · rw[if_neg h,if_neg h]
   rfl
theorem Yi7(hT:Yd F=true)(hO:Yr F=true){x:PInst}(hx:ShC x)(h:fixP (kF F) x=none):Yav F x=-1:=by
 rw[Yi6 hT hO hx,h];rfl
theorem YoT{k:Int→Option Int}{x:PInst}{n:Int}(h:fixP k x=some n):0≤n:=by
 unfold fixP at h;split at h
 · cases hk:k (ith x.args 1) with
   |none=>rw[hk]at h;cases h
   |some m=>
    rw[hk]at h
    by_cases h0:0≤m
    · simp[h0]at h
      omega
    · simp[h0]at h
 · cases h
theorem YoU(hT:Yd F=true)(hO:Yr F=true){x:PInst}(hx:ShC x){n:Int}(h:fixP (kF F) x=some n):Yav F x=n∧0≤n:=by
 rw[Yi6 hT hO hx,h];exact⟨rfl,YoT h⟩
end
def YY(k:Int→Option Int)(a:Int)(y:PInst):Bool:=(fixP k y).isSome&&decide (ith y.args 0=a)
section
variable {k:Int→Option Int} {a b v:Int} {n j:Nat} {l:List PInst} {x y:PInst}
theorem Yo9{s:List PInst×Int×Int}:(Ya4 k a n j y s).1=if j<n∧YY k a y=true then s.1 else s.1++[y]:=by
 unfold YY;cases h:fixP k y with
 |none=>rw[Ycs h];simp
 |some m=>
  by_cases h1:ith y.args 0=a
  · by_cases hj:j<n
    · by_cases h2:s.2.1<m
      · rw[YcU h ⟨hj,h1⟩ h2];simp[hj,h1]
      · rw[YcV h ⟨hj,h1⟩ h2];simp[hj,h1]
    · rw[Ycg h (fun e=>hj e.1)];simp[hj]
  · rw[Ycg h (fun e=>h1 e.2)];simp[h1]
theorem Ypa{s:List PInst×Int×Int}(h:¬(j<n∧YY k a y=true)):Ya4 k a n j y s=(s.1++[y],s.2):=by
 cases hf:fixP k y with
 |none=>rw[Ycs hf]
 |some m=>
  refine Ycg hf fun e=>h ⟨e.1,?_⟩
  unfold YY;rw[hf,decide_eq_true e.2];rfl
theorem Yji:∀{j:Nat},j≤l.length→(gat k a n b v l j).1=(l.take (min n j)).filter (fun y=>!YY k a y)++(l.take j).drop n
 |0,_=>by simp[gat]
 |j+1,h=>by
  have h1:=Yji (j:=j) ZO;have h2:l[j]?=some (l[j]'(ZO)):=List.getElem?_eq_getElem ZO;generalize l[j]'(ZO)=y at h2;have ht:l.take (j+1)=l.take j++[y]:=by rw[List.take_add_one,h2];rfl
  have hlt:(l.take j).length=j:=by rw[List.length_take];omega
  rw[YbC h2,Yo9,h1]
  by_cases hj:j<n
  · rw[show min n (j+1)=j+1 from ZO,show min n j=j from ZO,List.drop_eq_nil_of_le (show(l.take j).length≤n from ZO),List.drop_eq_nil_of_le (show(l.take (j+1)).length≤n by rw[List.length_take];omega),ht,List.filter_append]
    cases hf:YY k a y<;>simp[hf,hj]
  · rw[show min n (j+1)=n from ZO,show min n j=n from ZO,if_neg (fun e=>hj e.1),ht,List.drop_append_of_le_length ZO,List.append_assoc]
theorem YeO:l.take (Yl l)=l.takeWhile isQ:=(List.prefix_iff_eq_take.1 (List.takeWhile_prefix isQ)).symm
theorem Ypb:l.drop (Yl l)=l.dropWhile isQ:=by
 have h1:l.takeWhile isQ++l.dropWhile isQ=l:=List.takeWhile_append_dropWhile;have h2:l.take (Yl l)++l.drop (Yl l)=l:=List.take_append_drop ..
 rw[YeO]at h2;exact List.append_cancel_left (h2.trans h1.symm)
def thin(k:Int→Option Int)(a:Int)(l:List PInst):List PInst:=(l.takeWhile isQ).filter (fun y=>!YY k a y)++l.dropWhile isQ
theorem Ypc:(gat k a (Yl l) b v l l.length).1=thin k a l:=by
 rw[Yji (Nr _),show min (Yl l) l.length=Yl l from Nat.min_eq_left YcT,List.take_length,YeO,Ypb];rfl
theorem Yjj{m:Int}(h:fixP k y=some m):k (ith y.args 1)=some m:=by
 unfold fixP at h;split at h
 · cases hk:k (ith y.args 1) with
   |none=>rw[hk]at h;cases h
   |some u=>
    rw[hk]at h
    by_cases h0:0≤u
    · simp[h0]at h
      rw[h]
    · simp[h0]at h
 · cases h
theorem Yjk(hb:k v=some b):∀{j:Nat},j≤l.length→k (gat k a n b v l j).2.2=some (gat k a n b v l j).2.1∧((gat k a n b v l j).2.2=v∨∃y∈l,y.op=18∧ith y.args 0=a∧(gat k a n b v l j).2.2=ith y.args 1)
 |0,_=>⟨hb,.inl rfl⟩
 |j+1,h=>by
  have h1:=Yjk hb (j:=j) ZO;have h2:l[j]?=some (l[j]'(ZO)):=List.getElem?_eq_getElem ZO;rw[YbC h2];generalize l[j]'(ZO)=y at h2 ⊢;cases hf:fixP k y with
  |none=>
   rw[Ycs hf];exact h1
  |some m=>
   by_cases hn:j<n∧ith y.args 0=a
   · by_cases hm:(gat k a n b v l j).2.1<m
     · rw[YcU hf hn hm]
       exact⟨Yjj hf,.inr ⟨y,List.mem_of_getElem? h2,Ybc hf,hn.2,rfl⟩⟩
     · rw[YcV hf hn hm]
       exact h1
   · rw[Ycg hf hn]
     exact h1
theorem Yjl(h:∀y∈l.takeWhile isQ,YY k a y=false):∀{j:Nat},j≤l.length→gat k a (Yl l) b v l j=(l.take j,b,v)
 |0,_=>by simp[gat]
 |j+1,hj=>by
  have h1:=Yjl h (j:=j) ZO;have h2:l[j]?=some (l[j]'(ZO)):=List.getElem?_eq_getElem ZO;generalize l[j]'(ZO)=y at h2;rw[YbC h2,Ypa,h1,List.take_add_one,h2]
  · rfl
  · rintro⟨h3,h4⟩
    have h5:y∈l.takeWhile isQ:=by
     rw[← YeO];refine List.mem_of_getElem? (i:=j) ?_;rw[List.getElem?_take,if_pos h3,h2]
    rw[h y h5]at h4;cases h4
end
structure GoodL (k:Int→Option Int) (l:List PInst):Prop where
 ok:∀y∈l,OkI y
 mkc:∀y∈l,∀n,k y.dst=some n→0≤y.dst→y.op=0∧y.args=[]
theorem GoodL.sub{k:Int→Option Int}{l l':List PInst}(h:GoodL k l)(hs:∀y∈l',y∈l):GoodL k l':=⟨fun y hy=>h.ok y (hs y hy),fun y hy=>h.mkc y (hs y hy)⟩
section
variable {k:Int→Option Int} {a u v:Int} {l T:List PInst} {x y:PInst}
theorem YgA(h:YY k a y=true):y.op=18:=by
 unfold YY at h;cases hf:fixP k y with
 |none=>rw[hf]at h;cases h
 |some m=>exact Ybc hf
theorem Ypd(h:y.op=0):YY k a y=false:=by
 cases hf:YY k a y with
 |false=>rfl
 |true=>have:=YgA hf;omega
theorem Ype{m:Int}(h:fixP k y=some m):isQ y=true:=by
 have:=Ybc h;unfold isQ;rw[this];rfl
theorem Yd1(h:y∈thin k a l):y∈l:=by
 have h1:l.takeWhile isQ++l.dropWhile isQ=l:=List.takeWhile_append_dropWhile;rcases List.mem_append.1 h with h2|h2
 · rw[← h1]
   exact List.mem_append_left _ (List.mem_filter.1 h2).1
 · rw[← h1]
   exact List.mem_append_right _ h2
theorem YqX:(chk a v).dst=-1:=rfl
theorem OkI.dst(h:OkI y)(h1:y.op=18):y.dst=-1:=by
 obtain⟨a,v,rfl,-⟩:=h.2.2 h1;rfl
theorem Ydj{b:Int}(h:GoodL k (x::l))(hf:fixP k x=some b):∃a u v m:Int,x=chk a u∧0≤u∧0≤v∧k v=some m∧chk a v∈x::l∧mrgS k x l=((thin k a l).filter (mvP u v)++[chk a v],(thin k a l).filter fun y=>!mvP u v y):=by
 obtain⟨a,u,rfl,h0,-⟩:=(h.ok x ZS).2.2 (Ybc hf);have hg:=Yjk (a:=a) (n:=Yl l) (b:=b) (v:=u) (l:=l) (k:=k) (Yjj hf) (j:=l.length) (Nr _);have ht:=Ypc (k:=k) (a:=a) (b:=b) (v:=u) (l:=l);have hS:=Ygu hf (l:=l) rfl;have e0:ith (chk a u).args 0=a:=rfl;have e1:ith (chk a u).args 1=u:=rfl;rw[e0,e1]at hS;rw[ht]at hS;refine⟨a,u,(gat k a (Yl l) b u l l.length).2.2,(gat k a (Yl l) b u l l.length).2.1,rfl,h0,?_,hg.1,?_,hS⟩
 · rcases hg.2 with e|⟨y,hy,h1,-,e⟩
   · rw[e];exact h0
   · rw[e]
     obtain⟨a',v',rfl,h2,-⟩:=(h.ok y (by simp[hy])).2.2 h1;exact h2
 · rcases hg.2 with e|⟨y,hy,h1,h2,e⟩
   · rw[e];simp
   · rw[e]
     obtain⟨a',v',rfl,-,-⟩:=(h.ok y (by simp[hy])).2.2 h1;have h3:a'=a:=h2;subst h3;exact List.mem_cons_of_mem _ hy
theorem YeP(h:GoodL k (x::l)):∀y∈(mrgS k x l).1++(mrgS k x l).2,y∈x::l:=fun y hy=>by
 cases hf:fixP k x with
 |none=>
  rw[Yca hf]at hy;simpa using hy
 |some b=>
  obtain⟨a,u,v,m,rfl,-,-,-,hm,e⟩:=Ydj h hf;rw[e]at hy;rcases List.mem_append.1 hy with h1|h1
  · rcases List.mem_append.1 h1 with h1|h1
    · exact List.mem_cons_of_mem _ (Yd1 (List.mem_filter.1 h1).1)
    · rw[List.mem_singleton.1 h1]
      exact hm
  · exact List.mem_cons_of_mem _ (Yd1 (List.mem_filter.1 h1).1)
theorem GoodL.rest(h:GoodL k (x::l)):GoodL k (mrgS k x l).2:=h.sub fun y hy=>YeP h y (List.mem_append_right _ hy)
theorem Yjm:∀{n:Nat} {l:List PInst},l.length≤n→GoodL k l→∀y∈mrgL k l,y∈l
 |_,[],_,_,y,hy=>by simp[YbN]at hy
 |0,x::l,h,_,_,_=>by simp at h
 |n+1,x::l,h,hg,y,hy=>by
  have h1:=Ybm (k:=k) (x:=x) (l:=l);simp only[List.length_cons]at h;rw[Ybn]at hy;rcases List.mem_append.1 hy with h2|h2
  · exact YeP hg y (List.mem_append_left _ h2)
  · exact YeP hg y (List.mem_append_right _ (Yjm (n:=n) ZO hg.rest y h2))
theorem YeQ(h:GoodL k l):∀y∈mrgL k l,y∈l:=Yjm (Nr _) h
def dN(l:List PInst):List PInst:=l.filter fun y=>decide (0≤y.dst)
theorem Yjn{p:PInst→Bool}:∀(l:List PInst),(l.filter p++l.filter fun y=>!p y).Perm l
 |[]=>.refl _
 |x::l=>by
  have ih:=Yjn (p:=p) l;cases hp:p x
  · simp only[List.filter_cons,hp,Bool.false_eq_true,if_false,Bool.not_false,if_true]
    exact List.perm_middle.trans (ih.cons x)
  · simp only[List.filter_cons,hp,Bool.not_true,Bool.false_eq_true,if_false,if_true,List.cons_append]
    exact ih.cons x
theorem YcO{l m:List PInst}:dN (l++m)=dN l++dN m:=List.filter_append ..
theorem Ypf(h:∀y∈l,OkI y):dN (thin k a l)=dN l:=by
 have h1:l.takeWhile isQ++l.dropWhile isQ=l:=List.takeWhile_append_dropWhile;have h2:dN ((l.takeWhile isQ).filter fun y=>!YY k a y)=dN (l.takeWhile isQ):=by
  unfold dN;rw[List.filter_filter];refine List.filter_congr fun y hy=>?_
  cases hf:YY k a y with
  |false=>simp
  |true=>
   have h3:=(h y (by rw[← h1];exact List.mem_append_left _ hy)).dst (YgA hf);simp[h3]
 unfold thin;rw[YcO,h2,← YcO,h1]
theorem Ypg{l l':List PInst}(h:l.Perm l'):(dN l).Perm (dN l'):=h.filter _
theorem Yph(h:GoodL k (x::l)):(dN ((mrgS k x l).1++(mrgS k x l).2)).Perm (dN (x::l)):=by
 cases hf:fixP k x with
 |none=>rw[Yca hf];exact .refl _
 |some b=>
  obtain⟨a,u,v,m,rfl,-,-,-,-,e⟩:=Ydj h hf;have hc:∀w,dN [chk a w]=[]:=fun w=>rfl
  have e2:dN (chk a u::l)=dN l:=rfl;have e3:=Ypf (k:=k) (a:=a) (l:=l) fun y hy=>h.ok y (by simp[hy])
  rw[e,e2,← e3,YcO,YcO,hc,List.append_nil,← YcO];exact Ypg (Yjn _)
theorem Yjo:∀{n:Nat} {l:List PInst},l.length≤n→GoodL k l→(dN (mrgL k l)).Perm (dN l)
 |_,[],_,_=>by rw[YbN]
 |0,x::l,h,_=>by simp at h
 |n+1,x::l,h,hg=>by
  have h1:=Ybm (k:=k) (x:=x) (l:=l);simp only[List.length_cons]at h;rw[Ybn,YcO];have h2:=Yjo (n:=n) ZO hg.rest;refine(List.Perm.append_left _ h2).trans ?_;rw[← YcO];exact Yph hg
theorem Yjp(h:GoodL k l):(dN (mrgL k l)).Perm (dN l):=Yjo (Nr _) h
theorem Ypi(h:GoodL k l)(hy:y∈l)(h0:0≤y.dst):y∈mrgL k l:=
 (List.mem_filter.1 ((Yjp h).mem_iff.2 (List.mem_filter.2 ⟨hy,by simpa using h0⟩))).1
def Ahd(N:List PInst):Prop:=∀P y Q,N=P++y::Q→∀w∈y.args,0≤w→(∃m∈N,m.dst=w)→∃m∈P,m.dst=w
theorem Ydk{A B P Q:List PInst}(h:A++B=P++y::Q):(∃Q',A=P++y::Q')∨∃P',P=A++P'∧B=P'++y::Q:=by
 rcases List.append_eq_append_iff.1 h with⟨c,h1,h2⟩|⟨c,h1,h2⟩
 · exact .inr ⟨c,h1,h2⟩
 · cases c with
   |nil=>exact .inr ⟨[],by simpa using h1.symm,by simpa using h2.symm⟩
   |cons z c=>
    injection h2 with h3 h4
    subst h3;exact .inl ⟨c,h1⟩
theorem YeR{p:PInst→Bool}:∀{l P Q:List PInst},l.filter p=P++y::Q→∃P0 Q0,l=P0++y::Q0∧P0.filter p=P
 |[],P,Q,h=>by cases P<;>simp at h
 |x::l,P,Q,h=>by
  cases hx:p x with
  |false=>
   rw[List.filter_cons,if_neg (by rw[hx];decide)]at h;obtain⟨P0,Q0,h1,h2⟩:=YeR h;exact⟨x::P0,Q0,by rw[h1];rfl,by rw[List.filter_cons,if_neg (by rw[hx];decide),h2]⟩
  |true=>
   rw[List.filter_cons,if_pos hx]at h;cases P with
   |nil=>
    injection h with h1 h2
    subst h1;exact⟨[],l,rfl,rfl⟩
   |cons z P=>
    injection h with h1 h2
    subst h1;obtain⟨P0,Q0,h3,h4⟩:=YeR h2;exact⟨x::P0,Q0,by rw[h3];rfl,by rw[List.filter_cons,if_pos hx,h4]⟩
theorem Ypj(h:∀y∈l,OkI y){P Q:List PInst}(e:thin k a l=P++y::Q):∃P0 Q0,l=P0++y::Q0∧∀m∈P0,0≤m.dst→m∈P:=by
 have h1:l.takeWhile isQ++l.dropWhile isQ=l:=List.takeWhile_append_dropWhile;have hq:∀m∈l,0≤m.dst→(!YY k a m)=true:=fun m hm h0=>by
  cases hf:YY k a m with
  |false=>rfl
  |true=>have:=(h m hm).dst (YgA hf);omega
 rcases Ydk e with⟨Q',e1⟩|⟨P',e1,e2⟩
 · obtain⟨P0,Q0,h2,h3⟩:=YeR e1
   refine⟨P0,Q0++l.dropWhile isQ,by rw[← List.cons_append,← List.append_assoc,← h2,h1],fun m hm h0=>?_⟩;rw[← h3];exact List.mem_filter.2 ⟨hm,hq m (by rw[← h1,h2];simp[hm]) h0⟩
 · refine⟨l.takeWhile isQ++P',Q,by rw[List.append_assoc,← e2,h1],fun m hm h0=>?_⟩
   rw[e1];rcases List.mem_append.1 hm with h2|h2
   · exact List.mem_append_left _ (List.mem_filter.2 ⟨h2,hq m (by rw[← h1];exact List.mem_append_left _ h2) h0⟩)
   · exact List.mem_append_right _ h2
theorem Ahd.step(hA:Ahd (T++x::l))(h:GoodL k (x::l)):Ahd (T++(mrgS k x l).1++(mrgS k x l).2):=by
 cases hf:fixP k x with
 |none=>
  rw[Yca hf,List.append_assoc];exact hA
 |some b=>
  obtain⟨a,u,v,m0,rfl,hu0,hv0,hkv,-,e⟩:=Ydj h hf;have hsub:=YeP h;rw[e]at hsub ⊢;simp only at hsub ⊢;have hmem:∀z∈T++((thin k a l).filter (mvP u v)++[chk a v])++((thin k a l).filter fun y=>!mvP u v y),z∈T++chk a u::l:=fun z hz=>by
   rw[List.append_assoc]at hz;rcases List.mem_append.1 hz with h1|h1
   · exact List.mem_append_left _ h1
   · exact List.mem_append_right _ (hsub z h1)
  intro P y Q hN w hw hw0 hmk;have hold:∃m∈T++chk a u::l,m.dst=w:=by
   obtain⟨m,hm,hd⟩:=hmk;exact⟨m,hmem m hm,hd⟩
  have hN2:(T++(thin k a l).filter (mvP u v))++([chk a v]++(thin k a l).filter fun y=>!mvP u v y)=P++y::Q:=by rw[← hN];simp
  rcases Ydk hN2 with⟨Q',e1⟩|⟨P',e1,e2⟩
  · rcases Ydk e1 with⟨Q2,e3⟩|⟨P2,e3,e4⟩
    · exact hA P y (Q2++chk a u::l) (by rw[e3];simp) w hw hw0 hold
    · have hy:y∈(thin k a l).filter (mvP u v):=by rw[e4];simp
      obtain⟨h1,h2⟩:=List.mem_filter.1 hy;unfold mvP at h2;rw[Bool.and_eq_true,decide_eq_true_eq,decide_eq_true_eq]at h2;have h3:=(h.mkc y (List.mem_cons_of_mem _ (Yd1 h1)) m0 (by rw[h2.2];exact hkv) ZO).2;rw[h3]at hw;cases hw
  · rcases Ydk e2 with⟨Q2,e3⟩|⟨P2,e3,e4⟩
    · cases P' with
      |cons z P'=>simp at e3
      |nil=>
       injection e3 with h1 h2
       subst h1;have hax:∀t∈(chk a u).args,t=w→∃m∈P,m.dst=w:=fun t ht etw=>by
        subst etw;obtain⟨m,hm,hd⟩:=hA T (chk a u) l rfl t ht hw0 hold;exact⟨m,by rw[e1];simp[hm],hd⟩
       have hw2:w=a∨w=v:=by
        have:w∈[a,v]:=hw;simpa using this
       rcases hw2 with rfl|rfl
       · exact hax w (by simp[chk]) rfl
       · obtain⟨m,hm,hd⟩:=hmk
         rw[List.append_assoc,List.append_assoc]at hm;rcases List.mem_append.1 hm with h3|h3
         · exact⟨m,by rw[e1];simp[h3],hd⟩
         · rcases List.mem_append.1 h3 with h3|h3
           · exact⟨m,by rw[e1];exact List.mem_append_left _ (List.mem_append_right _ h3),hd⟩
           · rcases List.mem_append.1 h3 with h3|h3
             · rw[List.mem_singleton.1 h3]at hd
               have:(-1:Int)=w:=hd;omega
             · have h4:=(List.mem_filter.1 h3).2
               unfold mvP at h4
               by_cases hvu:w=u
               · exact hax u (by simp[chk]) hvu.symm
               · rw[decide_eq_true hvu,decide_eq_true hd]at h4
                 cases h4
    · obtain⟨P0,Q0,h1,h2⟩:=YeR e4
      obtain⟨P1,Q1,h3,h4⟩:=Ypj (fun y hy=>h.ok y (List.mem_cons_of_mem _ hy)) h1;obtain⟨m,hm,hd⟩:=hA (T++chk a u::P1) y Q1 (by rw[h3];simp) w hw hw0 hold;have hP:P=T++(thin k a l).filter (mvP u v)++([chk a v]++P2):=by rw[e1,e3]
      rcases List.mem_append.1 hm with h5|h5
      · exact⟨m,by rw[hP];simp[h5],hd⟩
      · rcases List.mem_cons.1 h5 with rfl|h5
        · have:(-1:Int)=w:=hd
          omega
        · have h6:=h4 m h5 ZO
          cases hp:mvP u v m with
          |true=>
           have h7:m∈(thin k a l).filter (mvP u v):=List.mem_filter.2 ⟨by rw[h1];exact List.mem_append_left _ h6,hp⟩;exact⟨m,by rw[hP];exact List.mem_append_left _ (List.mem_append_right _ h7),hd⟩
          |false=>
           have h7:m∈P2:=by rw[← h2];exact List.mem_filter.2 ⟨h6,by rw[hp];rfl⟩
           exact⟨m,by rw[hP];simp[h7],hd⟩
theorem Ahd.allN:∀{n:Nat} {l T:List PInst},l.length≤n→GoodL k l→Ahd (T++l)→Ahd (T++mrgL k l)
 |_,[],T,_,_,h=>by rw[YbN];exact h
 |0,x::l,T,h,_,_=>by simp at h
 |n+1,x::l,T,h,hg,hA=>by
  have h1:=Ybm (k:=k) (x:=x) (l:=l);simp only[List.length_cons]at h;rw[Ybn,← List.append_assoc];exact Ahd.allN (n:=n) ZO hg.rest (hA.step hg)
theorem Ahd.all(h:GoodL k l)(hA:Ahd l):Ahd (mrgL k l):=Ahd.allN (T:=[]) (Nr _) h hA
def Pa(k:Int→Option Int)(a:Int)(l:List PInst):Prop:=∀y∈l.takeWhile isQ,YY k a y=false
theorem Yjq{A B:List PInst}(h:y∈(A++B).takeWhile isQ):y∈A∨y∈B.takeWhile isQ:=by
 induction A with
 |nil=>exact .inr h
 |cons z A ih=>
  rw[List.cons_append,List.takeWhile_cons]at h;split at h
  · rcases List.mem_cons.1 h with rfl|h
    · exact .inl ZS
    · rcases ih h with h|h
      · exact .inl (by simp[h])
      · exact .inr h
  · cases h
theorem Pa.app{A B:List PInst}(h:∀y∈A,YY k a y=false)(hB:Pa k a B):Pa k a (A++B):=fun y hy=>by
 rcases Yjq hy with h1|h1
 · exact h y h1
 · exact hB y h1
theorem Yjr{p:PInst→Bool}:∀{l:List PInst},(∀y∈l,isQ y=false→p y=true)→(l.filter p).takeWhile isQ=(l.takeWhile isQ).filter p
 |[],_=>rfl
 |x::l,h=>by
  have ih:=Yjr (p:=p) (l:=l) fun y hy=>h y (by simp[hy])
  cases hq:isQ x with
  |false=>
   rw[List.filter_cons,if_pos (h x ZS hq),List.takeWhile_cons,List.takeWhile_cons,hq];rfl
  |true=>
   cases hp:p x with
   |false=>rw[List.filter_cons,if_neg (by rw[hp];decide),List.takeWhile_cons,hq,ih,if_pos rfl,List.filter_cons,if_neg (by rw[hp];decide)]
   |true=>rw[List.filter_cons,if_pos hp,List.takeWhile_cons,List.takeWhile_cons,hq,if_pos rfl,if_pos rfl,List.filter_cons,if_pos hp,ih]
theorem Yjs:∀{l:List PInst},(l.dropWhile isQ).takeWhile isQ=[]
 |[]=>rfl
 |x::l=>by
  rw[List.dropWhile_cons];cases hq:isQ x with
  |true=>exact Yjs (l:=l)
  |false=>
   show(x::l).takeWhile isQ=[]
   rw[List.takeWhile_cons,hq];rfl
theorem Ypk(h:y∈(thin k a l).takeWhile isQ):y∈l.takeWhile isQ∧YY k a y=false:=by
 rcases Yjq h with h1|h1
 · have:=List.mem_filter.1 h1
   exact⟨this.1,by simpa using this.2⟩
 · rw[Yjs]at h1
   cases h1
theorem Yjt{m0:Int}(h:GoodL k l)(hv0:0≤v)(hkv:k v=some m0)(hy:y∈((thin k a l).filter fun y=>!mvP u v y).takeWhile isQ):y∈l.takeWhile isQ∧YY k a y=false:=by
 rw[Yjr]at hy
 · exact Ypk (List.mem_filter.1 hy).1
 · intro z hz hq
   cases hp:mvP u v z with
   |false=>rfl
   |true=>
    unfold mvP at hp;rw[Bool.and_eq_true,decide_eq_true_eq,decide_eq_true_eq]at hp;have h3:=(h.mkc z (Yd1 hz) m0 (by rw[hp.2];exact hkv) ZO).1;unfold isQ at hq;rw[h3]at hq;cases hq
theorem Yju{m0:Int}(h:GoodL k l)(hv0:0≤v)(hkv:k v=some m0)(hy:y∈(thin k a l).filter (mvP u v)):y.op=0:=by
 obtain⟨h1,h2⟩:=List.mem_filter.1 hy;unfold mvP at h2;rw[Bool.and_eq_true,decide_eq_true_eq,decide_eq_true_eq]at h2;exact(h.mkc y (Yd1 h1) m0 (by rw[h2.2];exact hkv) ZO).1
theorem Pa.mrgN:∀{n:Nat} {l:List PInst},l.length≤n→GoodL k l→Pa k a l→Pa k a (mrgL k l)
 |_,[],_,_,h=>by rw[YbN];exact h
 |0,x::l,h,_,_=>by simp at h
 |n+1,x::l,h,hg,hP=>by
  have h1:=Ybm (k:=k) (x:=x) (l:=l);simp only[List.length_cons]at h;rw[Ybn];have ih:=Pa.mrgN (n:=n) (l:=(mrgS k x l).2) ZO hg.rest;have hl:GoodL k l:=hg.sub fun y hy=>by simp[hy]
  cases hq:isQ x with
  |false=>
   have hf:fixP k x=none:=by
    cases hf:fixP k x with
    |none=>rfl
    |some b=>rw[Ype hf]at hq;cases hq
   rw[Yca hf];intro y hy;rw[List.cons_append,List.takeWhile_cons,hq]at hy;cases hy
  |true=>
   have hPl:Pa k a l:=fun y hy=>hP y (by rw[List.takeWhile_cons,hq];simp[hy])
   have hx:YY k a x=false:=hP x (by rw[List.takeWhile_cons,hq];simp);cases hf:fixP k x with
   |none=>
    rw[Yca hf]at ih ⊢;exact Pa.app (fun y hy=>by rw[List.mem_singleton.1 hy];exact hx) (ih hPl)
   |some b=>
    obtain⟨a',u,v,m0,rfl,hu0,hv0,hkv,-,e⟩:=Ydj hg hf;rw[e]at ih ⊢;refine Pa.app (fun y hy=>?_) (ih fun y hy=>hPl y (Yjt hl hv0 hkv hy).1);rcases List.mem_append.1 hy with h2|h2
    · exact Ypd (Yju hl hv0 hkv h2)
    · rw[List.mem_singleton.1 h2]
      unfold YY at hx ⊢;rw[hf]at hx;have h4:∀t,ith (chk a' t).args 0=a':=fun _=>rfl
      rw[h4]at hx;have h3:¬a'=a:=by simpa using hx
      rw[h4,decide_eq_false h3,Bool.and_false]
theorem Pa.mrg(h:GoodL k l)(hP:Pa k a l):Pa k a (mrgL k l):=Pa.mrgN (Nr _) h hP
def Sep(k:Int→Option Int)(l:List PInst):Prop:=∀P x Q,l=P++x::Q→∀b,fixP k x=some b→Pa k (ith x.args 0) Q
theorem Sep.mrgN:∀{n:Nat} {l:List PInst},l.length≤n→GoodL k l→Sep k (mrgL k l)
 |_,[],_,_=>by
  rw[YbN];intro P x Q h;cases P<;>simp at h
 |0,x::l,h,_=>by simp at h
 |n+1,x::l,h,hg=>by
  have h1:=Ybm (k:=k) (x:=x) (l:=l);simp only[List.length_cons]at h;rw[Ybn];have ih:=Sep.mrgN (n:=n) (l:=(mrgS k x l).2) ZO hg.rest;have hrest:=hg.rest;have hl:GoodL k l:=hg.sub fun y hy=>by simp[hy]
  intro P y Q hN b' hfy;rcases Ydk hN with⟨Q',e1⟩|⟨P',e1,e2⟩
  · cases hf:fixP k x with
    |none=>
     rw[Yca hf]at e1;cases P with
     |cons z P=>simp at e1
     |nil=>
      injection e1 with h2 _
      rw[← h2,hf]at hfy;cases hfy
    |some b=>
     obtain⟨a,u,v,m0,rfl,hu0,hv0,hkv,-,e⟩:=Ydj hg hf;rw[e]at e1 hN hrest;rcases Ydk e1 with⟨Q2,e3⟩|⟨P2,e3,e4⟩
     · have h2:=Yju (y:=y) hl hv0 hkv (by rw[e3];simp)
       have:=Ybc hfy;omega
     · cases P2 with
       |cons z P2=>simp at e4
       |nil=>
        injection e4 with h2 h3
        rw[List.append_nil]at e3;subst h2;have hQ:Q=mrgL k ((thin k a l).filter fun y=>!mvP u v y):=by
         rw[e3]at hN;simp only[List.append_assoc]at hN;have h4:=List.append_cancel_left hN;injection h4 with _ h5
         exact h5.symm
        rw[hQ];exact Pa.mrg hrest fun z hz=>(Yjt hl hv0 hkv hz).2
  · exact ih P' y Q e2 b' hfy
theorem Sep.mrg(h:GoodL k l):Sep k (mrgL k l):=Sep.mrgN (Nr _) h
theorem Sep.self:∀{l:List PInst},(∀y∈l,ShC y)→Sep k l→mrgL k l=l
 |[],_,_=>rfl
 |x::l,hg,hS=>by
  have ih:=Sep.self (l:=l) (fun y hy=>hg y (by simp[hy])) fun P y Q h=>hS (x::P) y Q (by rw[h];rfl)
  rw[Ybn];cases hf:fixP k x with
  |none=>
   rw[Yca hf];show x::mrgL k l=x::l;rw[ih]
  |some b=>
   obtain⟨a,u,rfl,h0⟩:=hg x ZS (Ybc hf);have hP:Pa k a l:=hS [] (chk a u) l rfl b hf;have hga:=Yjl (b:=b) (v:=u) hP (Nr l.length);have hS2:=Ygu hf (l:=l) rfl;have e0:ith (chk a u).args 0=a:=rfl;have e1:ith (chk a u).args 1=u:=rfl;rw[e0,e1,hga,List.take_length]at hS2;have hm:∀y,mvP u u y=false:=fun y=>by unfold mvP;simp
   have f1:l.filter (mvP u u)=[]:=List.filter_eq_nil_iff.2 fun y _=>by simp[hm]
   have f2:(l.filter fun y=>!mvP u u y)=l:=List.filter_eq_self.2 fun y _=>by simp[hm]
   simp only[f1,f2]at hS2;rw[hS2];show chk a u::mrgL k l=chk a u::l;rw[ih]
end
end Go.Proofs.YtjlclkcmfokobaaGreatDoor
