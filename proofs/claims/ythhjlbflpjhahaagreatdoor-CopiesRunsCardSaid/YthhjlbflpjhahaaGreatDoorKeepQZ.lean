/- A drawn region whose looks and makes come first, and whose last operations wait for all others: with a word J over all that was done (that two makings lie apart). -/
import Derived.Test.YthhjlbflpjhahaaGreatDoorMonLZ
import Derived.Test.YthhjlbflpjhahaaGreatDoorKpQZ
namespace Go.Proofs.YthhjlbflpjhahaaGreatDoor
open Go Go.RowKit
section
variable {P:Program} {Q:Exit→Act→World→Prop}
theorem Yps{id:Nat}{a:Act}{w:World}{l:List Oper}(ds:List Tmp)(pr:Nat→World→Value→Prop)(J:(Nat→Bool)→List Value→Nat→Prop)
 (hJ0:∀vs n,J (fun _=>false) vs n) (hm:P.follows .mixedOrders=true)
 (hB:(Ydk l&&l.all fun o=>o.guard.isNone)=true) (hA:YiW l ds.length=true) (hl1:ds.length<l.length) (hD:(l.take ds.length).map (·.dst)=ds.map some) (hN:ds.Nodup)
 (mono:∀i w1 w2 v,i<ds.length→Below w1.heap.size w1 w2→pr i w1 v→pr i w2 v)
 (step:∀f i o vs w1,l[i]?=some o→i<ds.length→vs.length=ds.length→J f vs w1.heap.size→Below w.heap.size w w1→(∀j,(o.after.any fun e=>Region.binds .any e&&e.on==j)=true→pr j w1 (vs.getD j undef))→
   ∀K:Act→World→Prop,Shut (∀v a2 w2,a2=(Yc a ds vs).put o.dst v→Below w1.heap.size w1 w2→pr i w2 v→J (upd f i) (vs.set i v) w2.heap.size→K a2 w2)→o.wp P (Yc a ds vs) w1 K Q)
 (last:∀f vs w1,vs.length=ds.length→(∀i,i<ds.length→f i=true)→J f vs w1.heap.size→Below w.heap.size w w1→(∀i,i<ds.length→pr i w1 (vs.getD i undef))→wpList P l.toArray Q (l.drop ds.length) (Yc a ds vs) w1):(Code.region id l.toArray true).wp P Q a w:=by
 obtain⟨n,hn⟩:∃n,n=ds.length:=⟨_,rfl⟩;rw[← hn]at hA hl1 hD;have hdst:∀i o,l[i]?=some o→i<n→o.dst=some (ds.getD i 0):=fun i o ho hi=>by
  have:=congrArg (fun x=>x[i]?) hD;simp only[List.getElem?_map,List.getElem?_take]at this;rw[if_pos hi,ho,Option.map_some,List.getElem?_eq_getElem ZO,Option.map_some,Option.some.injEq]at this;rw[this,List.getD_eq_getElem?_getD,List.getElem?_eq_getElem ZO];rfl
 have hdn:∀(i:Nat) (o:Oper),l[i]?=some o→∀e∈o.after,e.on<i:=fun i o ho e he=>by
  rw[Bool.and_eq_true]at hB;have hi:i<l.length:=(List.getElem?_eq_some_iff.1 ho).1;have h1:=List.all_eq_true.1 hB.1 i (List.mem_range.2 hi);rw[show l.getD i default=o by simp[List.getD_eq_getElem?_getD,ho],Array.all_eq_true']at h1;simpa using h1 e he
 have hwt:∀k,n≤k→k<l.length→YgF l k=true:=fun k h1 h2=>by
  have:=List.all_eq_true.1 hA k (List.mem_range.2 h2);rw[Bool.or_eq_true,decide_eq_true_eq]at this;rcases this with h|h
  · exact ZO
  · exact h
 have hgd:∀o∈l,o.guard=none:=fun o ho=>by
  rw[Bool.and_eq_true]at hB;have:=List.all_eq_true.1 hB.2 o ho;simpa using this
 refine YhD hm (fun f a1 w1=>Ye5 l f∧∃m,n+m≤l.length∧(∀j,n≤j→j<l.length→(f j=true↔j<n+m))∧
  (m=0→∃vs,vs.length=n∧a1=Yc a ds vs∧Below w.heap.size w w1∧J f vs w1.heap.size∧∀i,i<n→f i=true→pr i w1 (vs.getD i undef))∧(0<m→wpList P l.toArray Q (l.drop (n+m)) a1 w1)) (by rw[Bool.and_eq_true]at hB;exact hB.1)
  ⟨fun _ _ _ h=>(by cases h),0,ZO,fun j h1 _=>⟨fun h=>(by cases h),fun h=>ZO⟩,fun _=>⟨ds.map fun d=>a.tmps.getD d undef,by rw[List.length_map,hn],(YgE a ds).symm,(Br _ _).drew,hJ0 _ _,fun _ _ h=>(by cases h)⟩,fun h=>absurd h (Nat.lt_irrefl _)⟩ ?_ ?_
 · rintro f i o a1 w1 ho hf hd ⟨hc,m,hm1,hm2,hv,hq⟩
   have hi:i<l.length:=(List.getElem?_eq_some_iff.1 ho).1;have hg:=hgd o (List.mem_of_getElem? ho);have hw:Region.wanted o (yielded l.toArray a1.tmps)=true:=by simp[Region.wanted,hg]
   rw[if_pos hw];have hc':Ye5 l (upd f i):=fun i' o' ho' hf' e he hb=>by
    by_cases e1:e.on=i
    · rw[e1,YdY]
    · rw[upd_ne e1]
      by_cases e2:i'=i
      · subst e2
        rw[ho]at ho';cases ho';exact hd e he hb
      · rw[upd_ne e2]at hf'
        exact hc i' o' ho' hf' e he hb
   have hd':∀o',l[i]?=some o'→∀e∈o'.after,Region.binds .any e=true→f e.on=true:=fun o' ho' e he hb=>by rw[ho]at ho';cases ho';exact hd e he hb
   by_cases hin:i<n
   · have hm0:m=0:=by
      refine Nat.eq_zero_of_not_pos fun hp=>?_
      have hfn:f n=true:=(hm2 n (Nr _) ZO).2 ZO;have:=YiX hc ZO (hwt n (Nr _) ZO) (fun o' ho' e he hb=>hc n o' ho' hfn e he hb) i hin;rw[hf]at this;cases this
     subst hm0;obtain⟨vs,hl,rfl,hb,hj0,hp⟩:=hv rfl;refine .inl (step f i o vs w1 ho ZO ZO hj0 hb (fun j hj=>?_) _ (fun v a2 w2 ha2 hb2 hv2 hj2=>⟨hc',0,hm1,fun j h1 h2=>?_,fun _=>?_,fun h=>absurd h (Nat.lt_irrefl _)⟩))
     · obtain⟨e,he,h2⟩:=Array.any_eq_true'.1 hj
       rw[Bool.and_eq_true,beq_iff_eq]at h2;have h3:=hd e he h2.1;have h4:=hdn i o ho e he;rw[h2.2]at h3 h4;exact hp j ZO h3
     · rw[upd_ne ZO]
       exact hm2 j h1 h2
     · refine⟨vs.set i v,by simpa using hl,by rw[ha2,hdst i o ho hin];exact YgD hN ZO ZO,hb.trans (hb2.mono hb.size),hj2,fun j hj hfj=>?_⟩
       by_cases e:j=i
       · subst e
         rw[List.getD_eq_getElem?_getD,List.getElem?_set_self ZO];exact hv2
       · rw[List.getD_eq_getElem?_getD,List.getElem?_set_ne (fun x=>e x.symm),← List.getD_eq_getElem?_getD]
         rw[upd_ne e]at hfj;exact mono j _ _ _ ZO hb2 (hp j hj hfj)
   · have hall:=YiX hc hi (hwt i ZO hi) hd'
     have him:i=n+m:=by
      have h1:¬i<n+m:=fun h=>by rw[(hm2 i ZO hi).2 h]at hf;cases hf
      have h2:¬n+m<i:=fun h=>by
       have h3:=hall (n+m) h;have:=(hm2 (n+m) ZO ZO).1 h3;omega
      omega
     subst him;have hL:wpList P l.toArray Q (l.drop (n+m)) a1 w1:=by
      by_cases hp:0<m
      · exact hq hp
      · obtain rfl:m=0:=by omega
        obtain⟨vs,hl,rfl,hb,hj0,hpr⟩:=hv rfl;have:=last f vs w1 ZO (fun j hj=>hall j ZO) hj0 hb (fun j hj=>hpr j ZO (hall j ZO));rw[← hn]at this;exact this
     have hcons:l.drop (n+m)=o::l.drop (n+(m+1)):=by
      rw[List.drop_eq_getElem_cons hi,show n+m+1=n+(m+1)from ZO];congr 1;exact(List.getElem?_eq_some_iff.1 ho).2
     rw[hcons,wpList,if_pos hw]at hL;refine hL.imp (fun h=>Oper.wp_mono (fun a2 w2 h2=>⟨hc',m+1,ZO,fun j h3 h4=>?_,fun h=>ZO,fun _=>h2⟩) h) (fun h=>h)
     by_cases e:j=n+m
     · subst e
       rw[YdY];exact⟨fun _=>ZO,fun _=>rfl⟩
     · rw[upd_ne e,hm2 j h3 h4]
       omega
 · rintro f a1 w1 hf ⟨-,m,hm1,hm2,-,hq⟩
   have h1:=(hm2 (l.length-1) ZO ZO).1 (hf _ ZO);have h2:=hq ZO;rw[List.drop_eq_nil_of_le ZO,wpList]at h2;exact h2
def ApartJ(i j:Nat)(f:Nat→Bool)(vs:List Value)(n:Nat):Prop:=
 (f i=true→∃g,vs.getD i undef=.pointer (some ⟨g,0,none⟩)∧g<n)∧(f j=true→∃g,vs.getD j undef=.pointer (some ⟨g,0,none⟩)∧g<n)∧(f i=true→f j=true→vs.getD i undef≠vs.getD j undef)
theorem Yff{vs:List Value}{i k:Nat}{v:Value}(h:k≠i):(vs.set k v).getD i undef=vs.getD i undef:=by
 rw[List.getD_eq_getElem?_getD,List.getElem?_set_ne h,← List.getD_eq_getElem?_getD]
theorem YjB{vs:List Value}{i:Nat}{v:Value}(h:i<vs.length):(vs.set i v).getD i undef=v:=by
 rw[List.getD_eq_getElem?_getD,List.getElem?_set_self h];rfl
theorem ApartJ.start{i j:Nat}(vs:List Value)(n:Nat):ApartJ i j (fun _=>false) vs n:=⟨fun h=>(by cases h),fun h=>(by cases h),fun h=>(by cases h)⟩
theorem ApartJ.skip{i j k:Nat}{f:Nat→Bool}{vs:List Value}{n m:Nat}{v:Value}(h:ApartJ i j f vs n)(hn:n≤m)(hi:k≠i)(hj:k≠j):ApartJ i j (upd f k) (vs.set k v) m:=by
 unfold ApartJ;rw[upd_ne hi.symm,upd_ne hj.symm,Yff hi,Yff hj];exact⟨fun e=>by obtain⟨g,h1,h2⟩:=h.1 e;exact⟨g,h1,ZO⟩,fun e=>by obtain⟨g,h1,h2⟩:=h.2.1 e;exact⟨g,h1,ZO⟩,h.2.2⟩
theorem ApartJ.put1{i j:Nat}{f:Nat→Bool}{vs:List Value}{n:Nat}{m:Nat}(h:ApartJ i j f vs n)(hij:i≠j)(hl:i<vs.length)(hm:n<m):ApartJ i j (upd f i) (vs.set i (.pointer (some ⟨n,0,none⟩))) m:=by
 unfold ApartJ;rw[YdY,upd_ne hij.symm,YjB hl,Yff hij];refine⟨fun _=>⟨n,rfl,ZO⟩,fun e=>by obtain⟨g,h1,h2⟩:=h.2.1 e;exact⟨g,h1,ZO⟩,fun _ e he=>?_⟩;obtain⟨g,h1,h2⟩:=h.2.1 e;rw[h1]at he;simp only[Value.pointer.injEq,Option.some.injEq,Addr.mk.injEq]at he;omega
theorem ApartJ.put2{i j:Nat}{f:Nat→Bool}{vs:List Value}{n:Nat}{m:Nat}(h:ApartJ i j f vs n)(hij:i≠j)(hl:j<vs.length)(hm:n<m):ApartJ i j (upd f j) (vs.set j (.pointer (some ⟨n,0,none⟩))) m:=by
 unfold ApartJ;rw[YdY,upd_ne hij,YjB hl,Yff hij.symm];refine⟨fun e=>by obtain⟨g,h1,h2⟩:=h.1 e;exact⟨g,h1,ZO⟩,fun _=>⟨n,rfl,ZO⟩,fun e _ he=>?_⟩;obtain⟨g,h1,h2⟩:=h.1 e;rw[h1]at he;simp only[Value.pointer.injEq,Option.some.injEq,Addr.mk.injEq]at he;omega
theorem YjC{id:Nat}{a:Act}{w:World}{l:List Oper}(ds:List Tmp)(i j:Nat)(hij:(decide (i≠j)&&decide (i<ds.length)&&decide (j<ds.length))=true)(pr:Nat→World→Value→Prop)(hm:P.follows .mixedOrders=true)
 (hB:(Ydk l&&l.all fun o=>o.guard.isNone)=true) (hA:YiW l ds.length=true) (hl1:ds.length<l.length) (hD:(l.take ds.length).map (·.dst)=ds.map some) (hN:ds.Nodup)
 (mono:∀i w1 w2 v,i<ds.length→Below w1.heap.size w1 w2→pr i w1 v→pr i w2 v)
 (step:∀k o vs w1,l[k]?=some o→k<ds.length→vs.length=ds.length→Below w.heap.size w w1→(∀j,(o.after.any fun e=>Region.binds .any e&&e.on==j)=true→pr j w1 (vs.getD j undef))→
   ∀K:Act→World→Prop,Shut (∀v a2 w2,a2=(Yc a ds vs).put o.dst v→Below w1.heap.size w1 w2→pr k w2 v→((k=i∨k=j)→v=.pointer (some ⟨w1.heap.size,0,none⟩)∧w1.heap.size<w2.heap.size)→K a2 w2)→o.wp P (Yc a ds vs) w1 K Q)
 (last:∀vs w1,vs.length=ds.length→vs.getD i undef≠vs.getD j undef→Below w.heap.size w w1→(∀i,i<ds.length→pr i w1 (vs.getD i undef))→wpList P l.toArray Q (l.drop ds.length) (Yc a ds vs) w1):(Code.region id l.toArray true).wp P Q a w:=by
 simp only[Bool.and_eq_true,decide_eq_true_eq]at hij;obtain⟨⟨hij,hi⟩,hj⟩:=hij;refine Yps ds pr (ApartJ i j) ApartJ.start hm hB hA hl1 hD hN mono (fun f k o vs w1 ho hk hl hJ hb hp K hK=>step k o vs w1 ho hk hl hb hp K (fun v a2 w2 e1 e2 e3 e4=>hK v a2 w2 e1 e2 e3 ?_)) (fun f vs w1 hl hf hJ hb hp=>last vs w1 hl (hJ.2.2 (hf i hi) (hf j hj)) hb hp)
 by_cases h1:k=i
 · subst h1
   obtain⟨rfl,h2⟩:=e4 (.inl rfl);exact hJ.put1 hij ZO h2
 · by_cases h2:k=j
   · subst h2
     obtain⟨rfl,h3⟩:=e4 (.inr rfl);exact hJ.put2 hij ZO h3
   · exact hJ.skip e2.size h1 h2
end
end Go.Proofs.YthhjlbflpjhahaaGreatDoor
namespace Go.Proofs.YthhjlbflpjhahaaGreatDoor
open Go.RowKit
set_option maxRecDepth 100000
def RunC(W:World)(fv iv:Value)(F:PFunc)(s0:RSt)(L:Nat):Prop:=∀w':World,Below W.heap.size W w'→∀k:Nat,k≤L→Calls Tryz.prog 24 #[fv,iv,.int .i64 k] w' (Yfe F k s0 w')
theorem RunC.later{W V:World}{fv iv:Value}{F:PFunc}{s0:RSt}{L:Nat}(h:RunC W fv iv F s0 L)(hb:Below W.heap.size W V):RunC V fv iv F s0 L:=fun w' hw k hk=>h w' (hb.trans (hw.mono hb.size)) k hk
theorem YgU{W w:World}{s t:RSt}{A A':Option Addr}{c c':Nat}(h:Ycp s t)(hs:Rd W.heap.size A s.trace 1 (Yi W))(ht:Rd W.heap.size A' t.trace 1 (Yi W))(hW:Below W.heap.size W w)(hl:s.trace.length≤281474976710656) :
 Calls Tryz.prog 25 #[YG s (.slice A s.trace.length c),YG t (.slice A' t.trace.length c')] w fun e w'=>e=.returned (.bool true)∧Below w.heap.size w w':=by
 have e:YG t (.slice A' t.trace.length c')=YG { s with steps:=t.steps } (.slice A' s.trace.length c'):=by
  unfold YG;simp only[h.ending,h.value,h.trap,h.trace,h.checks]
 rw[e];rw[← h.trace]at ht;exact Ypl hs ht hW hl
theorem YjD{w:World}{s t:RSt}{sm:Bool}{A A':Option Addr}{c c':Nat}(h:Ycp s t) :
 Calls Tryz.prog 50 #[YG s (.slice A s.trace.length c),YG t (.slice A' t.trace.length c'),.bool sm] w fun e w'=>e=.returned (.bool true)∧Below w.heap.size w w':=by
 have e:YG t (.slice A' t.trace.length c')=YG { s with steps:=t.steps } (.slice A' s.trace.length c'):=by
  unfold YG;simp only[h.ending,h.value,h.trap,h.trace,h.checks]
 rw[e];exact Ypo
theorem YjE{w1 V:World}{g:Nat}{s:RSt}{A:Option Addr}{c:Nat}(hx:BoxAt w1 g Yac 47)(ho:w1.ownsRow 0 2 1 (.slice A s.trace.length c) s.trace.length (s.trace.map (Value.int .i64)))(hb:Below V.heap.size V w1)(hg:V.heap.size≤g) :
 OutAt (w1.setCells g 0 (Ym s (.slice A s.trace.length c))) g s A c∧Below V.heap.size V (w1.setCells g 0 (Ym s (.slice A s.trace.length c))):=⟨OutAt.store hx ho,Yeq hg _ _ _ hb⟩
theorem YjF{w1 V:World}{g5 g6:Nat}{s t:RSt}{A B:Option Addr}{c d:Nat}(hap:Value.pointer (some ⟨g5,0,none⟩)≠.pointer (some ⟨g6,0,none⟩))(hx:BoxAt w1 g5 Yac 47)(hy:BoxAt w1 g6 Yac 47)
 (ho:w1.ownsRow 0 2 1 (.slice A s.trace.length c) s.trace.length (s.trace.map (Value.int .i64))) (hp:w1.ownsRow 0 2 1 (.slice B t.trace.length d) t.trace.length (t.trace.map (Value.int .i64))) (hb:Below V.heap.size V w1) (h5:V.heap.size≤g5) (h6:V.heap.size≤g6) :
 OutAt ((w1.setCells g5 0 (Ym s (.slice A s.trace.length c))).setCells g6 0 (Ym t (.slice B t.trace.length d))) g5 s A c∧OutAt ((w1.setCells g5 0 (Ym s (.slice A s.trace.length c))).setCells g6 0 (Ym t (.slice B t.trace.length d))) g6 t B d∧
  Below V.heap.size V ((w1.setCells g5 0 (Ym s (.slice A s.trace.length c))).setCells g6 0 (Ym t (.slice B t.trace.length d))):=by
 have hne:g5≠g6:=fun e=>hap (by rw[e])
 have hy2:=hy.otherC hne.symm (Ym s (.slice A s.trace.length c));exact⟨(OutAt.store hx ho).other hy2 hne _,OutAt.store hy2 (Ypn hp hx ZD _),Yeq h6 _ _ _ (Yeq h5 _ _ _ hb)⟩
section
variable {W w:World} {F G:PFunc} {s0 t0:RSt} {A0 A1 A2 B0 B1 B2 D0 D1:Option Addr} {m0 m1 m2 c0 c1 c2 n0 n1 n2 d0 d1 d2 i0 i1 j0 j1 L n forth back:Nat} {sm:Bool}
set_option maxHeartbeats 16000000 in
theorem Ypt(hF:RunC W (.agg #[.slice A0 m0 c0,.slice A1 m1 c1,.slice A2 m2 c2]) (.agg #[.slice D0 i0 j0,.slice D1 i1 j1]) F s0 L)(hG:RunC W (.agg #[.slice B0 n0 d0,.slice B1 n1 d1,.slice B2 n2 d2]) (.agg #[.slice D0 i0 j0,.slice D1 i1 j1]) G t0 L)(hW:Below W.heap.size W w)
 (hL:L≤1073741824) (hn:n≤L) (hf:forth*(n+1)≤L) (hb:back*(n+1)≤L) (hn31:n+1≤1073741824) (hts:∀k,(Yf F k s0).trace.length≤4096) (htt:∀k,(Yf G k t0).trace.length≤4096)
 (h1:(Yf F n s0).ending≠3→Ycp (Yf F n s0) (Yf G (forth*(n+1)) t0)) (h2:(Yf G n t0).ending≠3→Ycp (Yf F (back*(n+1)) s0) (Yf G n t0)) :
 Calls Tryz.prog 26 #[.agg #[.slice A0 m0 c0,.slice A1 m1 c1,.slice A2 m2 c2],.agg #[.slice B0 n0 d0,.slice B1 n1 d1,.slice B2 n2 d2],.agg #[.slice D0 i0 j0,.slice D1 i1 j1],.int .i64 n,.int .i64 forth,.int .i64 back,.bool sm] w fun e w'=>e=.returned (.bool true)∧Below w.heap.size w w':=by
 have HF:=Lh hF;have HG:=Lh hG;have HW:=Lh hW;have HN:=Lh hn;obtain⟨S1,hS1⟩:∃S1,S1=Yf F n s0:=⟨_,rfl⟩;obtain⟨S2,hS2⟩:∃S2,S2=Yf G n t0:=⟨_,rfl⟩;obtain⟨S3,hS3⟩:∃S3,S3=Yf G (forth*(n+1)) t0:=⟨_,rfl⟩;obtain⟨S4,hS4⟩:∃S4,S4=Yf F (back*(n+1)) s0:=⟨_,rfl⟩;have HL1:=Lh (show S1.trace.length≤4096 by rw[hS1];exact hts n);have HL2:=Lh (show S2.trace.length≤4096 by rw[hS2];exact htt n);have HL3:=Lh (show S3.trace.length≤4096 by rw[hS3];exact htt _);have HL4:=Lh (show S4.trace.length≤4096 by rw[hS4];exact hts _);rw[← hS1,← hS3]at h1;rw[← hS2,← hS4]at h2;have H1:=Lh h1;have H2:=Lh h2;have HS1:=Lh hS1;have HS2:=Lh hS2;have f1:wrap64 ((n:Int)+1)=((n+1:Nat):Int):=by unfold wrap64;omega
 have f2:wrap64 ((forth:Int)*((n+1:Nat):Int))=((forth*(n+1):Nat):Int):=by
  rw[← Int.natCast_mul];unfold wrap64;omega
 have f3:wrap64 ((back:Int)*((n+1:Nat):Int))=((back*(n+1):Nat):Int):=by
  rw[← Int.natCast_mul];unfold wrap64;omega
 obtain⟨n',hn'⟩:∃n':Nat,n'=n+1:=⟨_,rfl⟩;obtain⟨k3,hk3⟩:∃k:Nat,k=forth*(n+1):=⟨_,rfl⟩;obtain⟨k4,hk4⟩:∃k:Nat,k=back*(n+1):=⟨_,rfl⟩;have HS3:=Lh (show S3=Yf G k3 t0 by rw[hk3];exact hS3);have HS4:=Lh (show S4=Yf F k4 s0 by rw[hk4];exact hS4);have HFF:=Lh (show k3≤L by rw[hk3];exact hf);have HBB:=Lh (show k4≤L by rw[hk4];exact hb);rw[← hn']at f1;rw[← hk3,← hn']at f2;rw[← hk4,← hn']at f3;have F1:=Lh f1;have F2:=Lh f2;have F3:=Lh f3;clear f1 f2 f3;clear hF hG hW hL hn hf hb hn31 hts htt h1 h2 hS1 hS2 hS3 hS4 hn' hk3 hk4;obtain⟨wb,hwb⟩:∃wb,wb=((w.alloc (.cells #[.slice A0 m0 c0,.slice A1 m1 c1,.slice A2 m2 c2] 26)).alloc (.cells #[.slice B0 n0 d0,.slice B1 n1 d1,.slice B2 n2 d2] 26)).alloc (.cells #[.slice D0 i0 j0,.slice D1 i1 j1] 38):=⟨_,rfl⟩;have hbb:Below w.heap.size w wb:=by rw[hwb];exact BL
 have x0:BoxAt wb w.heap.size #[.slice A0 m0 c0,.slice A1 m1 c1,.slice A2 m2 c2] 26:=by rw[hwb];exact((BoxAt.new _ _ _).alloc _).alloc _
 have x1:BoxAt wb (w.heap.size+1) #[.slice B0 n0 d0,.slice B1 n1 d1,.slice B2 n2 d2] 26:=by
  rw[hwb];have:=(BoxAt.new (w.alloc (.cells #[.slice A0 m0 c0,.slice A1 m1 c1,.slice A2 m2 c2] 26)) #[.slice B0 n0 d0,.slice B1 n1 d1,.slice B2 n2 d2] 26).alloc (.cells #[.slice D0 i0 j0,.slice D1 i1 j1] 38);simpa using this
 have x2:BoxAt wb (w.heap.size+1+1) #[.slice D0 i0 j0,.slice D1 i1 j1] 38:=by
  rw[hwb];have:=BoxAt.new ((w.alloc (.cells #[.slice A0 m0 c0,.slice A1 m1 c1,.slice A2 m2 c2] 26)).alloc (.cells #[.slice B0 n0 d0,.slice B1 n1 d1,.slice B2 n2 d2] 26)) #[.slice D0 i0 j0,.slice D1 i1 j1] 38;simpa using this
 have f00:=x0.cell 0;have f01:=x0.cell 1;have f02:=x0.cell 2;have f10:=x1.cell 0;have f11:=x1.cell 1;have f12:=x1.cell 2;have f20:=x2.cell 0;have f21:=x2.cell 1;have l0:=x0.lt;have l1:=x1.lt;have l2:=x2.lt;simp at f00 f01 f02 f10 f11 f12 f20 f21;have HWb:=Lh (HW.out.trans (hbb.mono HW.out.size));have HX0:=Lh x0;have HX1:=Lh x1;have HX2:=Lh x2;clear x0 x1 x2;go_enter Tryz.func26,Tryz.ntmps26
 go_upto_region 1 with fail
 rw[← hwb];clear hwb;have hu:=Tryz.underlying47;refine YjC [19,20,21,22,23,24,25,26,15,16] 8 9 ZK (fun i w' v'=>(([fun _ v'=>v'=.agg #[.slice A0 m0 c0,.slice A1 m1 c1,.slice A2 m2 c2],fun _ v'=>v'=.agg #[.slice D0 i0 j0,.slice D1 i1 j1],fun _ v'=>v'=.int .i64 n,fun w' v'=>∃A c,v'=YG S1 (.slice A S1.trace.length c)∧w'.ownsRow 0 2 1 (.slice A S1.trace.length c) S1.trace.length (S1.trace.map (Value.int .i64)),fun _ v'=>v'=.agg #[.slice B0 n0 d0,.slice B1 n1 d1,.slice B2 n2 d2],fun _ v'=>v'=.agg #[.slice D0 i0 j0,.slice D1 i1 j1],fun _ v'=>v'=.int .i64 n,fun w' v'=>∃A c,v'=YG S2 (.slice A S2.trace.length c)∧w'.ownsRow 0 2 1 (.slice A S2.trace.length c) S2.trace.length (S2.trace.map (Value.int .i64)),fun w' v'=>∃g,v'=.pointer (some ⟨g,0,none⟩)∧wb.heap.size≤g∧BoxAt w' g Yac 47,fun w' v'=>∃g,v'=.pointer (some ⟨g,0,none⟩)∧wb.heap.size≤g∧BoxAt w' g Yac 47]:List (World→Value→Prop)).getD i (fun _ _=>True)) w' v') ZK ZK ZK ZD ZK ZD ?mono ?step ?last
 case mono=>
  intro i w1 w2 v hi hb h
  match i,hi,h with
  |0,_,h=>exact h
  |1,_,h=>exact h
  |2,_,h=>exact h
  |3,_,h=>exact(by obtain⟨A,c,e1,e2⟩:=h;exact⟨A,c,e1,Yl e2 hb⟩)
  |4,_,h=>exact h
  |5,_,h=>exact h
  |6,_,h=>exact h
  |7,_,h=>exact(by obtain⟨A,c,e1,e2⟩:=h;exact⟨A,c,e1,Yl e2 hb⟩)
  |8,_,h=>exact(by obtain⟨g,e1,e2,e3⟩:=h;exact⟨g,e1,e2,e3.below hb e3.lt⟩)
  |9,_,h=>exact(by obtain⟨g,e1,e2,e3⟩:=h;exact⟨g,e1,e2,e3.below hb e3.lt⟩)
  |k+10,hi,_=>exact absurd hi (Nat.not_lt_of_le (Nat.le_add_left _ _))
 case step=>
  intro i o vs w1 ho hi hl hb hp K hK;have hl0:vs.length=10:=hl;clear hl;obtain⟨v0,r0,rfl,hl1⟩:=Ye (n:=9) hl0;obtain⟨v1,r1,rfl,hl2⟩:=Ye (n:=8) hl1;obtain⟨v2,r2,rfl,hl3⟩:=Ye (n:=7) hl2;obtain⟨v3,r3,rfl,hl4⟩:=Ye (n:=6) hl3;obtain⟨v4,r4,rfl,hl5⟩:=Ye (n:=5) hl4;obtain⟨v5,r5,rfl,hl6⟩:=Ye (n:=4) hl5;obtain⟨v6,r6,rfl,hl7⟩:=Ye (n:=3) hl6;obtain⟨v7,r7,rfl,hl8⟩:=Ye (n:=2) hl7;obtain⟨v8,r8,rfl,hl9⟩:=Ye (n:=1) hl8;obtain⟨v9,r9,rfl,hl10⟩:=Ye (n:=0) hl9;obtain rfl:=List.eq_nil_of_length_eq_zero hl10;clear hl0 hl1 hl2 hl3 hl4 hl5 hl6 hl7 hl8 hl9 hl10
  match i,ho,hi,hp with
  |0,ho,hi,hp=>
   obtain rfl:=Option.some.inj ho;clear hi;clear hp;simp only[Yc,Act.put,La,Lz,Lc];have z9:=(hb.cell (p:=⟨w.heap.size,0,none⟩) l0).trans f00;have z8:=(hb.cell (p:=⟨w.heap.size,1,none⟩) l0).trans f01;have z7:=(hb.cell (p:=⟨w.heap.size,2,none⟩) l0).trans f02;have zl:w.heap.size<w1.heap.size:=Nt l0 hb.size;go_simp
   try go_wp2
   refine hK.out (.agg #[.slice A0 m0 c0,.slice A1 m1 c1,.slice A2 m2 c2]) _ _ ?_ ZE rfl (fun h=>absurd h ZD);simp only[Yc,Act.put,La,Lz,Lc]
  |1,ho,hi,hp=>
   obtain rfl:=Option.some.inj ho;clear hi;clear hp;simp only[Yc,Act.put,La,Lz,Lc];have z9:=(hb.cell (p:=⟨w.heap.size+1+1,0,none⟩) l2).trans f20;have z8:=(hb.cell (p:=⟨w.heap.size+1+1,1,none⟩) l2).trans f21;have zl:w.heap.size+1+1<w1.heap.size:=Nt l2 hb.size;go_simp
   try go_wp2
   refine hK.out (.agg #[.slice D0 i0 j0,.slice D1 i1 j1]) _ _ ?_ ZE rfl (fun h=>absurd h ZD);simp only[Yc,Act.put,La,Lz,Lc]
  |2,ho,hi,hp=>
   obtain rfl:=Option.some.inj ho;clear hi;clear hp;simp only[Yc,Act.put,La,Lz,Lc];go_simp
   try go_wp2
   refine hK.out (.int .i64 n) _ _ ?_ ZE rfl (fun h=>absurd h ZD);simp only[Yc,Act.put,La,Lz,Lc]
  |3,ho,hi,hp=>
   obtain rfl:=Option.some.inj ho;clear hi;have q0:v0=.agg #[.slice A0 m0 c0,.slice A1 m1 c1,.slice A2 m2 c2]:=hp 0 ZK;have q1:v1=.agg #[.slice D0 i0 j0,.slice D1 i1 j1]:=hp 1 ZK;have q2:v2=.int .i64 n:=hp 2 ZK;obtain rfl:=q0;obtain rfl:=q1;obtain rfl:=q2;clear hp;simp only[Yc,Act.put,La,Lz,Lc];go_simp;go_wp2_with(go_at_call 24;refine(HF.out _ (HW.out.trans ((hbb.trans (hb.mono hbb.size)).mono HW.out.size)) n HN.out).mono ?_;rintro e w9 ⟨v9,rfl,ho9,hb9⟩;rw[← HS1.out]at ho9 ⊢;obtain⟨A9,c9,hv9⟩:=Yh ho9;subst hv9);refine hK.out (YG S1 (.slice A9 S1.trace.length c9)) _ _ ?_ (hb9) (⟨_,_,rfl,ho9⟩) (fun h=>absurd h ZD);simp only[Yc,Act.put,La,Lz,Lc]
  |4,ho,hi,hp=>
   obtain rfl:=Option.some.inj ho;clear hi;clear hp;simp only[Yc,Act.put,La,Lz,Lc];have z9:=(hb.cell (p:=⟨w.heap.size+1,0,none⟩) l1).trans f10;have z8:=(hb.cell (p:=⟨w.heap.size+1,1,none⟩) l1).trans f11;have z7:=(hb.cell (p:=⟨w.heap.size+1,2,none⟩) l1).trans f12;have zl:w.heap.size+1<w1.heap.size:=Nt l1 hb.size;go_simp
   try go_wp2
   refine hK.out (.agg #[.slice B0 n0 d0,.slice B1 n1 d1,.slice B2 n2 d2]) _ _ ?_ ZE rfl (fun h=>absurd h ZD);simp only[Yc,Act.put,La,Lz,Lc]
  |5,ho,hi,hp=>
   obtain rfl:=Option.some.inj ho;clear hi;clear hp;simp only[Yc,Act.put,La,Lz,Lc];have z9:=(hb.cell (p:=⟨w.heap.size+1+1,0,none⟩) l2).trans f20;have z8:=(hb.cell (p:=⟨w.heap.size+1+1,1,none⟩) l2).trans f21;have zl:w.heap.size+1+1<w1.heap.size:=Nt l2 hb.size;go_simp
   try go_wp2
   refine hK.out (.agg #[.slice D0 i0 j0,.slice D1 i1 j1]) _ _ ?_ ZE rfl (fun h=>absurd h ZD);simp only[Yc,Act.put,La,Lz,Lc]
  |6,ho,hi,hp=>
   obtain rfl:=Option.some.inj ho;clear hi;clear hp;simp only[Yc,Act.put,La,Lz,Lc];go_simp
   try go_wp2
   refine hK.out (.int .i64 n) _ _ ?_ ZE rfl (fun h=>absurd h ZD);simp only[Yc,Act.put,La,Lz,Lc]
  |7,ho,hi,hp=>
   obtain rfl:=Option.some.inj ho;clear hi;have q3:∃A c,v3=YG S1 (.slice A S1.trace.length c)∧w1.ownsRow 0 2 1 (.slice A S1.trace.length c) S1.trace.length (S1.trace.map (Value.int .i64)):=hp 3 ZK;have q4:v4=.agg #[.slice B0 n0 d0,.slice B1 n1 d1,.slice B2 n2 d2]:=hp 4 ZK;have q5:v5=.agg #[.slice D0 i0 j0,.slice D1 i1 j1]:=hp 5 ZK;have q6:v6=.int .i64 n:=hp 6 ZK;obtain⟨E1,e1,rfl,ho1⟩:=q3;obtain rfl:=q4;obtain rfl:=q5;obtain rfl:=q6;clear hp;simp only[Yc,Act.put,La,Lz,Lc];go_simp;go_wp2_with(go_at_call 24;refine(HG.out _ (HW.out.trans ((hbb.trans (hb.mono hbb.size)).mono HW.out.size)) n HN.out).mono ?_;rintro e w9 ⟨v9,rfl,ho9,hb9⟩;rw[← HS2.out]at ho9 ⊢;obtain⟨A9,c9,hv9⟩:=Yh ho9;subst hv9);refine hK.out (YG S2 (.slice A9 S2.trace.length c9)) _ _ ?_ (hb9) (⟨_,_,rfl,ho9⟩) (fun h=>absurd h ZD);simp only[Yc,Act.put,La,Lz,Lc]
  |8,ho,hi,hp=>
   obtain rfl:=Option.some.inj ho;clear hi;clear hp;simp only[Yc,Act.put,La,Lz,Lc];go_simp;refine hK.out (.pointer (some ⟨w1.heap.size,0,none⟩)) _ _ ?_ ((Br _ _).alloc (Nr _) _) (⟨_,rfl,hb.size,BoxAt.new _ _ _⟩) (fun _=>⟨rfl,ZS⟩);simp only[Yc,Act.put,La,Lz,Lc]
  |9,ho,hi,hp=>
   obtain rfl:=Option.some.inj ho;clear hi;clear hp;simp only[Yc,Act.put,La,Lz,Lc];go_simp;refine hK.out (.pointer (some ⟨w1.heap.size,0,none⟩)) _ _ ?_ ((Br _ _).alloc (Nr _) _) (⟨_,rfl,hb.size,BoxAt.new _ _ _⟩) (fun _=>⟨rfl,ZS⟩);simp only[Yc,Act.put,La,Lz,Lc]
  |k+10,_,hi,_=>exact absurd hi (Nat.not_lt_of_le (Nat.le_add_left _ _))
 case last=>
  intro vs w1 hl hap0 hb1 hp;have hl0:vs.length=10:=hl;clear hl;obtain⟨v0,r0,rfl,hl1⟩:=Ye (n:=9) hl0;obtain⟨v1,r1,rfl,hl2⟩:=Ye (n:=8) hl1;obtain⟨v2,r2,rfl,hl3⟩:=Ye (n:=7) hl2;obtain⟨v3,r3,rfl,hl4⟩:=Ye (n:=6) hl3;obtain⟨v4,r4,rfl,hl5⟩:=Ye (n:=5) hl4;obtain⟨v5,r5,rfl,hl6⟩:=Ye (n:=4) hl5;obtain⟨v6,r6,rfl,hl7⟩:=Ye (n:=3) hl6;obtain⟨v7,r7,rfl,hl8⟩:=Ye (n:=2) hl7;obtain⟨v8,r8,rfl,hl9⟩:=Ye (n:=1) hl8;obtain⟨v9,r9,rfl,hl10⟩:=Ye (n:=0) hl9;obtain rfl:=List.eq_nil_of_length_eq_zero hl10;clear hl0 hl1 hl2 hl3 hl4 hl5 hl6 hl7 hl8 hl9 hl10;have q0:v0=.agg #[.slice A0 m0 c0,.slice A1 m1 c1,.slice A2 m2 c2]:=hp 0 (of_decide_eq_true ZK);have q1:v1=.agg #[.slice D0 i0 j0,.slice D1 i1 j1]:=hp 1 (of_decide_eq_true ZK);have q2:v2=.int .i64 n:=hp 2 (of_decide_eq_true ZK);have q3:∃A c,v3=YG S1 (.slice A S1.trace.length c)∧w1.ownsRow 0 2 1 (.slice A S1.trace.length c) S1.trace.length (S1.trace.map (Value.int .i64)):=hp 3 (of_decide_eq_true ZK);have q4:v4=.agg #[.slice B0 n0 d0,.slice B1 n1 d1,.slice B2 n2 d2]:=hp 4 (of_decide_eq_true ZK);have q5:v5=.agg #[.slice D0 i0 j0,.slice D1 i1 j1]:=hp 5 (of_decide_eq_true ZK);have q6:v6=.int .i64 n:=hp 6 (of_decide_eq_true ZK);have q7:∃A c,v7=YG S2 (.slice A S2.trace.length c)∧w1.ownsRow 0 2 1 (.slice A S2.trace.length c) S2.trace.length (S2.trace.map (Value.int .i64)):=hp 7 (of_decide_eq_true ZK);have q8:∃g,v8=.pointer (some ⟨g,0,none⟩)∧wb.heap.size≤g∧BoxAt w1 g Yac 47:=hp 8 (of_decide_eq_true ZK);have q9:∃g,v9=.pointer (some ⟨g,0,none⟩)∧wb.heap.size≤g∧BoxAt w1 g Yac 47:=hp 9 (of_decide_eq_true ZK);have hap:v8≠v9:=hap0;clear hap0;obtain rfl:=q0;obtain rfl:=q1;obtain rfl:=q2;obtain⟨E1,e1,rfl,ho1⟩:=q3;obtain rfl:=q4;obtain rfl:=q5;obtain rfl:=q6;obtain⟨E2,e2,rfl,ho2⟩:=q7;obtain⟨g5,rfl,hg5,bx5⟩:=q8;obtain⟨g6,rfl,hg6,bx6⟩:=q9;clear hp;simp only[Yc,Act.put,La,Lz,Lc];simp only[List.length_cons,List.length_nil,List.drop_succ_cons,List.drop_zero,Nat.zero_add,Nat.reduceAdd];have hst:=YjF hap bx5 bx6 ho1 ho2 hb1 hg5 hg6;have ha1:=Yc5 (n:=(Ym S1 (.slice E1 S1.trace.length e1)).toArray.size) bx5 rfl;have ha2:=World.there_setCells (Yc5 (n:=(Ym S2 (.slice E2 S2.trace.length e2)).toArray.size) bx6 rfl) g5 0 (Ym S1 (.slice E1 S1.trace.length e1)).toArray.toList;refine wpList_store_mid rfl 47 (.tmp 15) (.tmp 22) rfl g5 0 (Ym S1 (.slice E1 S1.trace.length e1)).toArray rfl rfl ha1 (YaF _ _) (YdB _ _ rfl) ?_;refine wpList_store_mid rfl 47 (.tmp 16) (.tmp 26) rfl g6 0 (Ym S2 (.slice E2 S2.trace.length e2)).toArray rfl rfl ha2 (YaF _ _) (YdB _ _ rfl) ?_;obtain⟨w2,hw2⟩:∃w2,w2=(w1.setCells g5 0 (Ym S1 (.slice E1 S1.trace.length e1)).toArray.toList).setCells g6 0 (Ym S2 (.slice E2 S2.trace.length e2)).toArray.toList:=⟨_,rfl⟩;rw[← hw2];replace hst:OutAt w2 g5 S1 E1 e1∧OutAt w2 g6 S2 E2 e2∧Below wb.heap.size wb w2:=by rw[hw2];exact hst
  clear hw2 ha1 ha2 hap bx5 bx6 ho1 ho2 hb1 hg5 hg6 f00 f01 f02 f10 f11 f12 f20 f21;obtain⟨hO5,hO6,hb2⟩:=hst;have z5:=hO5.e0;have z6:=hO5.lt;obtain⟨th,hth⟩:∃th:Bool,(S1.ending !=3)=th:=⟨_,rfl⟩;have HO5:=Lh hO5;have HO6:=Lh hO6;have HB2:=Lh hb2;clear hO5 hO6 hb2
  go_upto_if 29 with fail
  have HTH:=Lh hth;clear hth z5 z6
  go_cut[17] (fun _ wx=>OutAt wx g6 S2 E2 e2∧Below wb.heap.size wb wx)
  case first=>
   cases th
   · as_aux_lemma=>
     go_wp2_with fail
     go_meet
     exact⟨HO6.out,HB2.out⟩
   · as_aux_lemma=>
     have hne:=H1.out (by have:=HTH.out;simpa using this);have hb2:=HB2.out;clear HTH H1 H2 HB2;have X0:=HX0.out.below hb2 l0;have y00:=X0.cell 0;have y01:=X0.cell 1;have y02:=X0.cell 2;have m0:=X0.lt;have X1:=HX1.out.below hb2 l1;have y10:=X1.cell 0;have y11:=X1.cell 1;have y12:=X1.cell 2;have m1:=X1.lt;have X2:=HX2.out.below hb2 l2;have y20:=X2.cell 0;have y21:=X2.cell 1;have m2:=X2.lt;simp at y00 y01 y02 y10 y11 y12 y20 y21;clear X0 X1 X2;have HV:=Lh hb2;have f1:=F1.out;have f2:=F2.out;go_wp2_with fail;refine(HG.out _ (HWb.out.trans (HV.out.mono HWb.out.size)) k3 HFF.out).mono ?_;rintro e w9 ⟨v9,rfl,ho3,hb9⟩;rw[← HS3.out]at ho3 ⊢;obtain⟨E3,e3,hv9⟩:=Yh ho3;subst hv9;rw[show YG S3 (.slice E3 S3.trace.length e3)=.agg (Ym S3 (.slice E3 S3.trace.length e3)).toArray from rfl];have hth3:=Yc5 (n:=(Ym S3 (.slice E3 S3.trace.length e3)).toArray.size) (BoxAt.new w9 Yac 47) rfl;clear f1 f2 y00 y01 y02 y10 y11 y12 y20 y21 m0 m1 m2;go_wp2_with(first|(refine wpList_store_mid rfl 47 (.tmp 17) (.tmp 36) rfl w9.heap.size 0 (Ym S3 (.slice E3 S3.trace.length e3)).toArray rfl rfl hth3 (YaF _ _) (YdB _ _ rfl) ?_;have hst:=YjE (V:=w2) (BoxAt.new w9 Yac 47) (Yl ho3 ((Br w9.heap.size w9).alloc (Nr _) (.cells Yac 47))) (hb9.alloc hb9.size (.cells Yac 47)) hb9.size;obtain⟨w3,hw3⟩:∃w3,w3=(w9.alloc (.cells Yac 47)).setCells w9.heap.size 0 (Ym S3 (.slice E3 S3.trace.length e3)).toArray.toList:=⟨_,rfl⟩;replace hst:OutAt w3 w9.heap.size S3 E3 e3∧Below w2.heap.size w2 w3:=(by rw[hw3];exact hst);unfold Yac at hw3;rw[← hw3];clear hw3 hth3 ho3 hb9;obtain⟨hO7,hb3⟩:=hst;have hP5:=HO5.out.below hb3;have HP6:=Lh (HO6.out.below hb3);have HQ:=Lh (HV.out.trans (hb3.mono HV.out.size));clear HO5 HO6 hb3 HV)|(refine wpList_load_mid rfl 47 _ rfl g5 0 rfl (Ym S1 (.slice E1 S1.trace.length e1)) _ hP5.rng hu rfl (YaF _ _) ?_)|(refine wpList_load_mid rfl 47 _ rfl w9.heap.size 0 rfl (Ym S3 (.slice E3 S3.trace.length e3)) _ hO7.rng hu rfl (YaF _ _) ?_)|(refine wpList_load_mid rfl 47 _ rfl g5 0 rfl (Ym S1 (.slice E1 S1.trace.length e1)) _ hOA.rng hu rfl (YaF _ _) ?_)|(refine wpList_load_mid rfl 47 _ rfl w9.heap.size 0 rfl (Ym S3 (.slice E3 S3.trace.length e3)) _ hOB.rng hu rfl (YaF _ _) ?_)|(refine YdA rfl 47 _ rfl g5 0 rfl (Ym S1 (.slice E1 S1.trace.length e1)) _ hOA.rng hu rfl (YaF _ _) ?_)|(refine YdA rfl 47 _ rfl w9.heap.size 0 rfl (Ym S3 (.slice E3 S3.trace.length e3)) _ hOB.rng hu rfl (YaF _ _) ?_)|(go_at_call 25;refine(YgU hne hP5.rd hO7.rd (Br _ _) (by have:=HL1.out;omega)).mono ?_;rintro e wy ⟨rfl,hb9⟩;have hOA:=hP5.below hb9;have hOB:=hO7.below hb9;have HB9:=Lh hb9;clear hb9)|(go_at_call 50;refine(YjD hne).mono ?_;rintro e wz ⟨rfl,hbz⟩))
     go_meet
     exact⟨HP6.out.below (HB9.out.trans (hbz.mono HB9.out.size)),HQ.out.trans ((HB9.out.trans (hbz.mono HB9.out.size)).mono HQ.out.size)⟩
  case rest=>as_aux_lemma=>
   obtain⟨hO6,hb2⟩:=hcut;have z5:=hO6.e0;have z6:=hO6.lt;obtain⟨th,hth⟩:∃th:Bool,(S2.ending !=3)=th:=⟨_,rfl⟩;have HO6:=Lh hO6;have HB2:=Lh hb2;clear hO6 hb2 HO5 H1 HS1 HS2 HS3 HL1 HL3 HG F2 HFF HTH
   go_upto_if 50 with fail
   have HTH:=Lh hth;clear hth z5 z6;cases th
   · as_aux_lemma=>
     go_wp2;go_ret;exact⟨rfl,hbb.trans (HB2.out.mono hbb.size)⟩
   · as_aux_lemma=>
     have hne:=H2.out (by have:=HTH.out;simpa using this);have hb2:=HB2.out;clear HTH H2 HB2;have X0:=HX0.out.below hb2 l0;have y00:=X0.cell 0;have y01:=X0.cell 1;have y02:=X0.cell 2;have m0:=X0.lt;have X1:=HX1.out.below hb2 l1;have y10:=X1.cell 0;have y11:=X1.cell 1;have y12:=X1.cell 2;have m1:=X1.lt;have X2:=HX2.out.below hb2 l2;have y20:=X2.cell 0;have y21:=X2.cell 1;have m2:=X2.lt;simp at y00 y01 y02 y10 y11 y12 y20 y21;clear X0 X1 X2;have HV:=Lh hb2;have f1:=F1.out;have f2:=F3.out;go_wp2_with fail;refine(HF.out _ (HWb.out.trans (HV.out.mono HWb.out.size)) k4 HBB.out).mono ?_;rintro e w9 ⟨v9,rfl,ho4,hb9⟩;rw[← HS4.out]at ho4 ⊢;obtain⟨E4,e4,hv9⟩:=Yh ho4;subst hv9;rw[show YG S4 (.slice E4 S4.trace.length e4)=.agg (Ym S4 (.slice E4 S4.trace.length e4)).toArray from rfl];have hth3:=Yc5 (n:=(Ym S4 (.slice E4 S4.trace.length e4)).toArray.size) (BoxAt.new w9 Yac 47) rfl;clear f1 f2 y00 y01 y02 y10 y11 y12 y20 y21 m0 m1 m2;go_wp2_with(first|(refine wpList_store_mid rfl 47 (.tmp 18) (.tmp 57) rfl w9.heap.size 0 (Ym S4 (.slice E4 S4.trace.length e4)).toArray rfl rfl hth3 (YaF _ _) (YdB _ _ rfl) ?_;have hst:=YjE (V:=wc) (BoxAt.new w9 Yac 47) (Yl ho4 ((Br w9.heap.size w9).alloc (Nr _) (.cells Yac 47))) (hb9.alloc hb9.size (.cells Yac 47)) hb9.size;obtain⟨w3,hw3⟩:∃w3,w3=(w9.alloc (.cells Yac 47)).setCells w9.heap.size 0 (Ym S4 (.slice E4 S4.trace.length e4)).toArray.toList:=⟨_,rfl⟩;replace hst:OutAt w3 w9.heap.size S4 E4 e4∧Below wc.heap.size wc w3:=(by rw[hw3];exact hst);unfold Yac at hw3;rw[← hw3];clear hw3 hth3 ho4 hb9;obtain⟨hO7,hb3⟩:=hst;have hP5:=HO6.out.below hb3;have HQ:=Lh (HV.out.trans (hb3.mono HV.out.size));clear HO6 hb3 HV)|(refine wpList_load_mid rfl 47 _ rfl w9.heap.size 0 rfl (Ym S4 (.slice E4 S4.trace.length e4)) _ hO7.rng hu rfl (YaF _ _) ?_)|(refine wpList_load_mid rfl 47 _ rfl g6 0 rfl (Ym S2 (.slice E2 S2.trace.length e2)) _ hP5.rng hu rfl (YaF _ _) ?_)|(refine wpList_load_mid rfl 47 _ rfl w9.heap.size 0 rfl (Ym S4 (.slice E4 S4.trace.length e4)) _ hOA.rng hu rfl (YaF _ _) ?_)|(refine wpList_load_mid rfl 47 _ rfl g6 0 rfl (Ym S2 (.slice E2 S2.trace.length e2)) _ hOB.rng hu rfl (YaF _ _) ?_)|(refine YdA rfl 47 _ rfl w9.heap.size 0 rfl (Ym S4 (.slice E4 S4.trace.length e4)) _ hOA.rng hu rfl (YaF _ _) ?_)|(refine YdA rfl 47 _ rfl g6 0 rfl (Ym S2 (.slice E2 S2.trace.length e2)) _ hOB.rng hu rfl (YaF _ _) ?_)|(go_at_call 25;refine(YgU hne hO7.rd hP5.rd (Br _ _) (by have:=HL4.out;omega)).mono ?_;rintro e wy ⟨rfl,hb9⟩;have hOA:=hO7.below hb9;have hOB:=hP5.below hb9;have HB9:=Lh hb9;clear hb9)|(go_at_call 50;refine(YjD hne).mono ?_;rintro e wz ⟨rfl,hbz⟩));go_ret;exact⟨rfl,hbb.trans ((HQ.out.trans ((HB9.out.trans (hbz.mono HB9.out.size)).mono HQ.out.size)).mono hbb.size)⟩
end
end Go.Proofs.YthhjlbflpjhahaaGreatDoor
