/- A region that draws its order, makes memory alone, and ends in operations for which all others must be done: those may do anything and are walked one behind the other. -/
import Derived.Test.YtjlclkcmfokobaaGreatDoorNewPZ
namespace Go.Proofs.YtjlclkcmfokobaaGreatDoor
open Go Go.RowKit
set_option maxRecDepth 100000
def Yc(a:Act):List Tmp→List Value→Act
 |d::ds,v::vs=>Yc (a.put (some d) v) ds vs
 |_,_=>a
theorem Ym9{a:Act}{d e:Tmp}(h:d≠e)(u v:Value):(a.put (some d) u).put (some e) v=(a.put (some e) v).put (some d) u:=by
 simp only[Act.put,Act.mk.injEq,and_true];exact Array.setIfInBounds_comm u v h
theorem Yna{a:Act}{d:Tmp}(u v:Value):(a.put (some d) u).put (some d) v=a.put (some d) v:=by
 simp only[Act.put,Act.mk.injEq,and_true];simp
theorem Ynb(a:Act)(d:Tmp):a.put (some d) (a.tmps.getD d undef)=a:=by
 obtain⟨t,df⟩:=a;simp only[Act.put,Act.mk.injEq,and_true];apply Array.ext_getElem?;intro i
 by_cases e:d=i
 · subst e
   by_cases hd:d<t.size
   · simp[hd]
   · simp[hd]
 · simp[Array.getElem?_setIfInBounds_ne e]
theorem Yif{d:Tmp}{v:Value}:∀{ds:List Tmp} {vs:List Value} {a:Act},d∉ds→(Yc a ds vs).put (some d) v=Yc (a.put (some d) v) ds vs
 |[],_,_,_=>by simp[Yc]
 |_::_,[],_,_=>by simp[Yc]
 |e::ds,u::vs,a,h=>by
  rw[Yc,Yc,Yif (fun hm=>h (by simp[hm])),Ym9 (fun he=>h (by simp[he]))]
theorem Ygb{v:Value}:∀{ds:List Tmp} {vs:List Value} {a:Act} {i:Nat},ds.Nodup→vs.length=ds.length→i<ds.length→(Yc a ds vs).put (some (ds.getD i 0)) v=Yc a ds (vs.set i v)
 |[],_,_,_,_,_,h=>by simp at h
 |_::_,[],_,_,_,h,_=>by simp at h
 |e::ds,u::vs,a,0,hn,_,_=>by
  rw[Lz,Yc,Yc,Le,Yif (List.nodup_cons.1 hn).1,Yna]
 |e::ds,u::vs,a,i+1,hn,hl,hi=>by
  rw[Lc,Yc,Yc,Ld];exact Ygb (List.nodup_cons.1 hn).2 (by simpa using hl) (by simpa using hi)
theorem Ygc(a:Act):∀(ds:List Tmp),Yc a ds (ds.map fun d=>a.tmps.getD d undef)=a
 |[]=>rfl
 |d::ds=>by rw[List.map_cons,Yc,Ynb,Ygc]
theorem YqH{P:Program}{o:Oper}{a:Act}{w:World}{K:Act→World→Prop}{Q:Exit→Act→World→Prop}{cells:Array Value}(t:TypeId)(parts:Array (Nat×Operand))(ho:o.op=.build t parts)
 (hc:P.built t (parts.map fun(i,x)=>(i,a.eval x)).toList=some cells) (h:K (a.put o.dst (.agg cells)) w):o.wp P a w K Q:=
 wp_build t parts ho (by rw[hc];rfl) (by rw[hc];exact h)
theorem Ye{α:Type}{n:Nat}{vs:List α}(h:vs.length=n+1):∃v r,vs=v::r∧r.length=n:=by
 cases vs with
 |nil=>cases h
 |cons v r=>exact⟨v,r,rfl,by simpa using h⟩
section
variable {P:Program} {Q:Exit→Act→World→Prop}
theorem Yig{id:Nat}{a:Act}{w:World}{l:List Oper}(ds:List Tmp)(pr:Nat→World→Value→Prop)(hm:P.follows .mixedOrders=true)
 (hB:(YdE l&&l.all fun o=>o.guard.isNone)=true) (hD:l.map (·.dst)=ds.map some) (hN:ds.Nodup)
 (mono:∀i w1 w2 v,i<l.length→Below w1.heap.size w1 w2→pr i w1 v→pr i w2 v)
 (step:∀i o vs w1,l[i]?=some o→vs.length=l.length→Below w.heap.size w w1→(∀j,(o.after.any fun e=>Region.binds .any e&&e.on==j)=true→pr j w1 (vs.getD j undef))→
   ∀K:Act→World→Prop,Shut (∀v a2 w2,a2=(Yc a ds vs).put o.dst v→Below w1.heap.size w1 w2→pr i w2 v→K a2 w2)→o.wp P (Yc a ds vs) w1 K Q)
 (fin:∀vs w1,vs.length=l.length→Below w.heap.size w w1→(∀i,i<l.length→pr i w1 (vs.getD i undef))→Q .normal (Yc a ds vs) w1):(Code.region id l.toArray true).wp P Q a w:=by
 have hdl:ds.length=l.length:=by simpa using(congrArg List.length hD).symm
 refine Yhw hm (fun a0 f a1 w1=>∃vs,vs.length=l.length∧a1=Yc a0 ds vs∧Below w.heap.size w w1∧∀i,i<l.length→f i=true→pr i w1 (vs.getD i undef)) hB
  ⟨ds.map fun d=>a.tmps.getD d undef,by simpa using hdl,(Ygc a ds).symm,(Br _ _).drew,fun _ _ h=>by cases h⟩ ?_ ?_
 · rintro f i o a1 w1 ho hf hd ⟨vs,hl,rfl,hb,hp⟩ K hK
   have hi:i<l.length:=(List.getElem?_eq_some_iff.1 ho).1;have hlt:∀j,(o.after.any fun e=>Region.binds .any e&&e.on==j)=true→j<l.length∧f j=true:=fun j hj=>by
    obtain⟨e,he,h2⟩:=Array.any_eq_true'.1 hj;rw[Bool.and_eq_true,beq_iff_eq]at h2;have h3:=hd e he h2.1;rw[h2.2]at h3;refine⟨?_,h3⟩;rw[Bool.and_eq_true]at hB;have h1:=List.all_eq_true.1 hB.1 i (List.mem_range.2 hi);rw[show l.getD i default=o by simp[List.getD_eq_getElem?_getD,ho],Array.all_eq_true']at h1;have h4:=h1 e he;simp only[decide_eq_true_eq]at h4;omega
   refine step i o vs w1 ho hl hb (fun j hj=>hp j (hlt j hj).1 (hlt j hj).2) K (fun v a2 w2 ha2 hb2 hv=>hK.out _ _ ?_);have hdst:o.dst=some (ds.getD i 0):=by
    have:=congrArg (fun x=>x[i]?) hD;simp only[List.getElem?_map,ho,Option.map_some]at this;rw[List.getElem?_eq_getElem ZO,Option.map_some,Option.some.injEq]at this;rw[this,List.getD_eq_getElem?_getD,List.getElem?_eq_getElem ZO];rfl
   refine⟨vs.set i v,by simpa using hl,by rw[ha2,hdst];exact Ygb hN ZO ZO,hb.trans (hb2.mono hb.size),fun j hj hfj=>?_⟩
   by_cases e:j=i
   · subst e
     rw[List.getD_eq_getElem?_getD,List.getElem?_set_self ZO];exact hv
   · rw[List.getD_eq_getElem?_getD,List.getElem?_set_ne (fun x=>e x.symm),← List.getD_eq_getElem?_getD]
     rw[upd_ne e]at hfj;exact mono j _ _ _ hj hb2 (hp j hj hfj)
 · rintro f a1 w1 hf ⟨vs,hl,rfl,hb,hp⟩
   exact fin vs w1 hl hb fun i hi=>hp i hi (hf i hi)
end
def closeB(l:List Oper):Nat→List Nat→List Nat
 |0,s=>s
 |i+1,s=>closeB l i (if s.contains i then(((l.getD i default).after.toList.filter (Region.binds .any)).map (·.on)).foldl (fun s j=>if s.contains j then s else j::s) s else s)
theorem Yih{P:Nat→Prop}:∀{t s:List Nat},(∀j∈t,P j)→(∀j∈s,P j)→∀j∈t.foldl (fun s j=>if s.contains j then s else j::s) s,P j
 |[],_,_,h=>h
 |x::t,s,h1,h2=>by
  rw[List.foldl_cons];refine Yih (fun j hj=>h1 j (List.mem_cons_of_mem _ hj)) fun j hj=>?_
  split at hj
  · exact h2 j hj
  · rcases List.mem_cons.1 hj with rfl|hj
    · exact h1 _ (List.mem_cons_self ..)
    · exact h2 j hj
def YeD(l:List Oper)(f:Nat→Bool):Prop:=∀i o,l[i]?=some o→f i=true→∀e∈o.after,Region.binds .any e=true→f e.on=true
theorem Yii{l:List Oper}{f:Nat→Bool}(hc:YeD l f):∀(n:Nat) (s:List Nat),n≤l.length→(∀j∈s,f j=true)→∀j∈closeB l n s,f j=true
 |0,_,_,h=>h
 |n+1,s,hn,h=>by
  rw[closeB];refine Yii hc n _ ZO ?_;split
  · rename_i hs
    refine Yih (fun j hj=>?_) h;obtain⟨e,he,rfl⟩:=List.mem_map.1 hj;obtain⟨he,hb⟩:=List.mem_filter.1 he;have hg:l[n]?=some (l.getD n default):=by simp[List.getD_eq_getElem?_getD,show n<l.length from ZO]
    exact hc n _ hg (h n (by simpa using hs)) e (by simpa using he) hb
  · exact h
def Ygd(l:List Oper)(k:Nat):Bool:=(List.range k).all fun j=>(closeB l k (((l.getD k default).after.toList.filter (Region.binds .any)).map (·.on))).contains j
def Ync(l:List Oper)(n:Nat):Bool:=(List.range l.length).all fun k=>decide (k<n)||Ygd l k
theorem Yij{l:List Oper}{f:Nat→Bool}{k:Nat}(hc:YeD l f)(hk:k<l.length)(hw:Ygd l k=true)(hd:∀o,l[k]?=some o→∀e∈o.after,Region.binds .any e=true→f e.on=true):∀j,j<k→f j=true:=fun j hj=>by
 have hg:l[k]?=some (l.getD k default):=by simp[List.getD_eq_getElem?_getD,hk]
 have h1:=List.all_eq_true.1 hw j (List.mem_range.2 hj);refine Yii hc k _ ZO (fun i hi=>?_) j (by simpa using h1);obtain⟨e,he,rfl⟩:=List.mem_map.1 hi;obtain⟨he,hb⟩:=List.mem_filter.1 he;exact hd _ hg e (by simpa using he) hb
section
variable {P:Program} {Q:Exit→Act→World→Prop}
theorem YeE{id:Nat}{a:Act}{w:World}{l:List Oper}(ds:List Tmp)(pr:Nat→World→Value→Prop)(hm:P.follows .mixedOrders=true)
 (hB:(YdE l&&l.all fun o=>o.guard.isNone)=true) (hA:Ync l ds.length=true) (hl1:ds.length<l.length) (hD:(l.take ds.length).map (·.dst)=ds.map some) (hN:ds.Nodup)
 (mono:∀i w1 w2 v,i<ds.length→Below w1.heap.size w1 w2→pr i w1 v→pr i w2 v)
 (step:∀i o vs w1,l[i]?=some o→i<ds.length→vs.length=ds.length→Below w.heap.size w w1→(∀j,(o.after.any fun e=>Region.binds .any e&&e.on==j)=true→pr j w1 (vs.getD j undef))→
   ∀K:Act→World→Prop,Shut (∀v a2 w2,a2=(Yc a ds vs).put o.dst v→Below w1.heap.size w1 w2→pr i w2 v→K a2 w2)→o.wp P (Yc a ds vs) w1 K Q)
 (last:∀vs w1,vs.length=ds.length→Below w.heap.size w w1→(∀i,i<ds.length→pr i w1 (vs.getD i undef))→wpList P l.toArray Q (l.drop ds.length) (Yc a ds vs) w1):(Code.region id l.toArray true).wp P Q a w:=by
 obtain⟨n,hn⟩:∃n,n=ds.length:=⟨_,rfl⟩;rw[← hn]at hA hl1 hD;have hdst:∀i o,l[i]?=some o→i<n→o.dst=some (ds.getD i 0):=fun i o ho hi=>by
  have:=congrArg (fun x=>x[i]?) hD;simp only[List.getElem?_map,List.getElem?_take]at this;rw[if_pos hi,ho,Option.map_some,List.getElem?_eq_getElem ZO,Option.map_some,Option.some.injEq]at this;rw[this,List.getD_eq_getElem?_getD,List.getElem?_eq_getElem ZO];rfl
 have hdn:∀(i:Nat) (o:Oper),l[i]?=some o→∀e∈o.after,e.on<i:=fun i o ho e he=>by
  rw[Bool.and_eq_true]at hB;have hi:i<l.length:=(List.getElem?_eq_some_iff.1 ho).1;have h1:=List.all_eq_true.1 hB.1 i (List.mem_range.2 hi);rw[show l.getD i default=o by simp[List.getD_eq_getElem?_getD,ho],Array.all_eq_true']at h1;simpa using h1 e he
 have hwt:∀k,n≤k→k<l.length→Ygd l k=true:=fun k h1 h2=>by
  have:=List.all_eq_true.1 hA k (List.mem_range.2 h2);rw[Bool.or_eq_true,decide_eq_true_eq]at this;rcases this with h|h
  · exact ZO
  · exact h
 have hgd:∀o∈l,o.guard=none:=fun o ho=>by
  rw[Bool.and_eq_true]at hB;have:=List.all_eq_true.1 hB.2 o ho;simpa using this
 refine Yhv hm (fun f a1 w1=>YeD l f∧∃m,n+m≤l.length∧(∀j,n≤j→j<l.length→(f j=true↔j<n+m))∧
  (m=0→∃vs,vs.length=n∧a1=Yc a ds vs∧Below w.heap.size w w1∧∀i,i<n→f i=true→pr i w1 (vs.getD i undef))∧(0<m→wpList P l.toArray Q (l.drop (n+m)) a1 w1)) (by rw[Bool.and_eq_true]at hB;exact hB.1)
  ⟨fun _ _ _ h=>(by cases h),0,ZO,fun j h1 _=>⟨fun h=>(by cases h),fun h=>ZO⟩,fun _=>⟨ds.map fun d=>a.tmps.getD d undef,by rw[List.length_map,hn],(Ygc a ds).symm,(Br _ _).drew,fun _ _ h=>(by cases h)⟩,fun h=>absurd h (Nat.lt_irrefl _)⟩ ?_ ?_
 · rintro f i o a1 w1 ho hf hd ⟨hc,m,hm1,hm2,hv,hq⟩
   have hi:i<l.length:=(List.getElem?_eq_some_iff.1 ho).1;have hg:=hgd o (List.mem_of_getElem? ho);have hw:Region.wanted o (yielded l.toArray a1.tmps)=true:=by simp[Region.wanted,hg]
   rw[if_pos hw];have hc':YeD l (upd f i):=fun i' o' ho' hf' e he hb=>by
    by_cases e1:e.on=i
    · rw[e1,YfL]
    · rw[upd_ne e1]
      by_cases e2:i'=i
      · subst e2
        rw[ho]at ho';cases ho';exact hd e he hb
      · rw[upd_ne e2]at hf'
        exact hc i' o' ho' hf' e he hb
   have hd':∀o',l[i]?=some o'→∀e∈o'.after,Region.binds .any e=true→f e.on=true:=fun o' ho' e he hb=>by rw[ho]at ho';cases ho';exact hd e he hb
   by_cases hin:i<n
   · have hm0:m=0:=by
      refine Nat.eq_zero_of_not_pos fun hp=>?_
      have hfn:f n=true:=(hm2 n (Nr _) ZO).2 ZO;have:=Yij hc ZO (hwt n (Nr _) ZO) (fun o' ho' e he hb=>hc n o' ho' hfn e he hb) i hin;rw[hf]at this;cases this
     subst hm0;obtain⟨vs,hl,rfl,hb,hp⟩:=hv rfl;refine .inl (step i o vs w1 ho ZO ZO hb (fun j hj=>?_) _ (fun v a2 w2 ha2 hb2 hv2=>⟨hc',0,hm1,fun j h1 h2=>?_,fun _=>?_,fun h=>absurd h (Nat.lt_irrefl _)⟩))
     · obtain⟨e,he,h2⟩:=Array.any_eq_true'.1 hj
       rw[Bool.and_eq_true,beq_iff_eq]at h2;have h3:=hd e he h2.1;have h4:=hdn i o ho e he;rw[h2.2]at h3 h4;exact hp j ZO h3
     · rw[upd_ne ZO]
       exact hm2 j h1 h2
     · refine⟨vs.set i v,by simpa using hl,by rw[ha2,hdst i o ho hin];exact Ygb hN ZO ZO,hb.trans (hb2.mono hb.size),fun j hj hfj=>?_⟩
       by_cases e:j=i
       · subst e
         rw[List.getD_eq_getElem?_getD,List.getElem?_set_self ZO];exact hv2
       · rw[List.getD_eq_getElem?_getD,List.getElem?_set_ne (fun x=>e x.symm),← List.getD_eq_getElem?_getD]
         rw[upd_ne e]at hfj;exact mono j _ _ _ ZO hb2 (hp j hj hfj)
   · have hall:=Yij hc hi (hwt i ZO hi) hd'
     have him:i=n+m:=by
      have h1:¬i<n+m:=fun h=>by rw[(hm2 i ZO hi).2 h]at hf;cases hf
      have h2:¬n+m<i:=fun h=>by
       have h3:=hall (n+m) h;have:=(hm2 (n+m) ZO ZO).1 h3;omega
      omega
     subst him;have hL:wpList P l.toArray Q (l.drop (n+m)) a1 w1:=by
      by_cases hp:0<m
      · exact hq hp
      · obtain rfl:m=0:=by omega
        obtain⟨vs,hl,rfl,hb,hpr⟩:=hv rfl;have:=last vs w1 ZO hb (fun j hj=>hpr j ZO (hall j ZO));rw[← hn]at this;exact this
     have hcons:l.drop (n+m)=o::l.drop (n+(m+1)):=by
      rw[List.drop_eq_getElem_cons hi,show n+m+1=n+(m+1)from ZO];congr 1;exact(List.getElem?_eq_some_iff.1 ho).2
     rw[hcons,wpList,if_pos hw]at hL;refine hL.imp (fun h=>Oper.wp_mono (fun a2 w2 h2=>⟨hc',m+1,ZO,fun j h3 h4=>?_,fun h=>ZO,fun _=>h2⟩) h) (fun h=>h)
     by_cases e:j=n+m
     · subst e
       rw[YfL];exact⟨fun _=>ZO,fun _=>rfl⟩
     · rw[upd_ne e,hm2 j h3 h4]
       omega
 · rintro f a1 w1 hf ⟨-,m,hm1,hm2,-,hq⟩
   have h1:=(hm2 (l.length-1) ZO ZO).1 (hf _ ZO);have h2:=hq ZO;rw[List.drop_eq_nil_of_le ZO,wpList]at h2;exact h2
end
end Go.Proofs.YtjlclkcmfokobaaGreatDoor
