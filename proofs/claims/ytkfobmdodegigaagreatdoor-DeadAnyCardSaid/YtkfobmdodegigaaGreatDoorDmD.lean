/- slices.DeleteFunc on a row of one's own: the plain law, and what happens in memory. -/
import Derived.Test.YtkfobmdodegigaaGreatDoorDmP
import Derived.Test.YtkfobmdodegigaaGreatDoorMem
import Derived.Test.YtkfobmdodegigaaGreatDoorSLawQ
import Derived.Test.YtkfobmdodegigaaGreatDoorCopy
namespace Go.Proofs.YtkfobmdodegigaaGreatDoor
open Go.RowKit
set_option maxRecDepth 100000
section
variable {α:Type} {p:α→Bool}
theorem firstIdx_spec:∀(l:List α) (i:Nat),(firstIdx p l i=-1∧l.filter (fun x=>!p x)=l)∨∃k,k<l.length∧firstIdx p l i=((i+k:Nat):Int)∧(l.take (k+1)).filter (fun x=>!p x)=l.take k
 |[],i=>.inl ⟨rfl,rfl⟩
 |x::r,i=>by
  unfold firstIdx;cases h:p x
  · rcases firstIdx_spec r (i+1)with⟨h1,h2⟩|⟨k,h1,h2,h3⟩
    · exact .inl ⟨by simpa using h1,by simp[h,h2]⟩
    · refine .inr ⟨k+1,by simpa using h1,?_,by rw[List.take_succ_cons,List.filter_cons,h3];simp[h]⟩
      simp only[Bool.false_eq_true,if_false,h2];omega
  · exact .inr ⟨0,ZS,ZS,by simp[h]⟩
structure DelI (p:α→Bool) (xs ys:List α) (i j:Nat):Prop where
 len:ys.length=xs.length
 lt:i<j
 le:j≤xs.length
 tk:ys.take i=(xs.take j).filter fun x=>!p x
 dr:ys.drop j=xs.drop j
variable {xs ys:List α} {i j:Nat}
theorem DelI.start{k:Nat}(hk:k<xs.length)(h:(xs.take (k+1)).filter (fun x=>!p x)=xs.take k):DelI p xs xs k (k+1):=⟨rfl,ZO,ZO,h.symm,rfl⟩
theorem DelI.at_(h:DelI p xs ys i j){x:α}(hx:xs[j]?=some x):ys[j]?=some x:=by
 have h1:=congrArg (·[0]?) h.dr;simp only[List.getElem?_drop,Nat.add_zero]at h1;rw[h1,hx]
theorem DelI.skip(h:DelI p xs ys i j)(hj:j<xs.length){x:α}(hx:xs[j]?=some x)(hp:p x=true):DelI p xs ys i (j+1):=by
 refine⟨h.len,by have:=h.lt;omega,hj,?_,?_⟩
 · rw[h.tk,List.take_add_one,hx,List.filter_append]
   simp[hp]
 · have:=congrArg (List.drop 1) h.dr
   simpa[List.drop_drop,Nat.add_comm]using this
theorem DelI.keep(h:DelI p xs ys i j)(hj:j<xs.length){x:α}(hx:xs[j]?=some x)(hp:p x=false):DelI p xs (ys.set i x) (i+1) (j+1):=by
 have hl:=h.len;have hlt:=h.lt;refine⟨by rw[List.length_set];exact h.len,ZO,hj,?_,?_⟩
 · rw[List.take_add_one,List.getElem?_set_self ZO,List.take_set_of_le (Nr _),h.tk,List.take_add_one,hx,List.filter_append]
   simp[hp]
 · rw[List.drop_set_of_lt ZO]
   have:=congrArg (List.drop 1) h.dr;simpa[List.drop_drop,Nat.add_comm]using this
theorem DelI.fin(h:DelI p xs ys i xs.length):ys.take i=xs.filter (fun x=>!p x)∧i=(xs.filter fun x=>!p x).length:=by
 have h1:=h.tk;rw[List.take_length]at h1;have h2:=congrArg List.length h1;rw[List.length_take,h.len]at h2;have:=h.lt;exact⟨h1,ZO⟩
end
section
variable {w:World} {base e sz g n cap i:Nat} {xs:List Value}
theorem own_cut(h:w.ownsRow base e sz (.slice (some ⟨g,0,none⟩) n cap) n xs)(hi:i≤n):w.ownsRow base e sz (.slice (some ⟨g,0,none⟩) i cap) i (xs.take (i*sz)):=by
 obtain⟨h1,h2⟩:=h;have hm:=Nat.mul_le_mul_right sz hi;rcases h2 with⟨h0,_⟩|⟨g',cap',cur,hv,hg,hh,hn,hcap,hsz,htake⟩
 · cases h0
 · cases hv
   refine⟨by rw[List.length_take];omega,.inr ⟨g,cap,cur,rfl,hg,hh,ZO,hcap,hsz,?_⟩⟩;rw[← htake,List.take_take,Nat.min_eq_left hm]
theorem own_behind:∀(Z:List Value) {w:World} {o:Nat},w.ownsRow base e sz (.slice (some ⟨g,0,none⟩) n cap) n xs→xs.length≤o→(w.setCells g o Z).ownsRow base e sz (.slice (some ⟨g,0,none⟩) n cap) n xs
 |[],_,_,h,_=>h
 |z::Z,w,o,h,ho=>by
  have h1:=(h.stored o z).1;rw[List.set_eq_of_length_le ho]at h1;exact own_behind Z h1 ZO
theorem RRow.cut{α:Type}{C:List Value→α→Prop}{ys:List α}(h:RRow w base e sz C (.slice (some ⟨g,0,none⟩) n cap) ys)(hi:i≤ys.length):RRow w base e sz C (.slice (some ⟨g,0,none⟩) i cap) (ys.take i):=by
 obtain⟨A,c,hv⟩:=h.form;simp only[Value.slice.injEq]at hv;obtain⟨-,rfl,-⟩:=hv;obtain⟨ch,hl,hc,hr⟩:=h;have hcs:∀c∈ch,c.length=sz:=fun cs hm=>by
  obtain⟨k,hk,rfl⟩:=List.getElem_of_mem hm;exact(hc k _ (ys[k]'(ZO)) (by simp[hk]) ZS).1
 refine⟨ch.take i,by rw[List.length_take,List.length_take,hl],fun k cs x h1 h2=>?_,?_⟩
 · rw[List.getElem?_take]at h1 h2
   split at h1
   · rename_i hk
     rw[if_pos hk]at h2;exact hc k cs x h1 h2
   · cases h1
 · have h1:=own_cut hr hi
   have hf:ch.flatten.take (i*sz)=(ch.take i).flatten:=by
    have h2:((ch.take i).flatten).length=i*sz:=by
     have:∀l:List (List Value),(∀c∈l,c.length=sz)→l.flatten.length=l.length*sz:=fun l=>by
      induction l with
      |nil=>simp
      |cons a l ih=>
       intro hl;rw[List.flatten_cons,List.length_append,ih fun c hc=>hl c (List.mem_cons_of_mem _ hc),hl a (List.mem_cons_self ..),List.length_cons,Nat.succ_mul];omega
     rw[this _ fun c hc=>hcs c (List.mem_of_mem_take hc),List.length_take,hl,Nat.min_eq_left hi]
    have h3:ch.flatten=(ch.take i).flatten++(ch.drop i).flatten:=by rw[← List.flatten_append,List.take_append_drop]
    rw[h3,← h2];exact List.take_left
   rw[hf]at h1;rw[List.length_take,Nat.min_eq_left hi];exact h1
theorem RRow.behind{α:Type}{C C':List Value→α→Prop}{ys:List α}{Z:List Value}{o:Nat}(h:RRow w base e sz C (.slice (some ⟨g,0,none⟩) n cap) ys)(ho:ys.length*sz≤o)(hC:∀cs x,C cs x→C' cs x):RRow (w.setCells g o Z) base e sz C' (.slice (some ⟨g,0,none⟩) n cap) ys:=by
 obtain⟨A,c,hv⟩:=h.form;simp only[Value.slice.injEq]at hv;obtain⟨-,rfl,-⟩:=hv;obtain⟨ch,hl,hc,hr⟩:=h;exact⟨ch,hl,fun i cs x h1 h2=>⟨(hc i cs x h1 h2).1,hC _ _ (hc i cs x h1 h2).2⟩,own_behind Z hr (by rw[hr.1];exact ho)⟩
theorem Kp.setCells{D:Nat→Prop}{a:World}(hg:¬D g):∀(Z:List Value) {w:World} {o:Nat},Kp D a w→Kp D a (w.setCells g o Z)
 |[],_,_,h=>h
 |_::Z,_,_,h=>Kp.setCells hg Z (h.setCell hg _)
theorem KT.setCells{ts:List TypeId}{a:World}{t:TypeId}(ht:t∉ts):∀(Z:List Value) {w:World} {o:Nat} {cs:Array Value},KT ts a w→BoxAt w g cs t→KT ts a (w.setCells g o Z)
 |[],_,_,_,h,_=>h
 |_::Z,_,_,_,h,hb=>KT.setCells ht Z (h.setCell hb ht _) (hb.set _ _)
theorem flat_set4{a b c d:Value}:∀{ch:List (List Value)} {k:Nat},(∀c∈ch,c.length=4)→k<ch.length→(ch.set k [a,b,c,d]).flatten=(((ch.flatten.set (k*4) a).set (k*4+1) b).set (k*4+2) c).set (k*4+3) d
 |[],k,_,hk=>by simp at hk
 |c0::ch,k,hs,hk=>by
  have h0:=hs c0 ZS;obtain⟨x,y,z,u,rfl⟩:∃x y z u,c0=[x,y,z,u]:=by
   match c0,h0 with
   |[x,y,z,u],_=>exact⟨x,y,z,u,rfl⟩
  cases k with
  |zero=>simp
  |succ k=>
   have ih:=flat_set4 (a:=a) (b:=b) (c:=c) (d:=d) (ch:=ch) (k:=k) (fun c h=>hs c (by simp[h])) (by simpa using hk);rw[Lc,List.flatten_cons,ih,List.flatten_cons,show(k+1)*4=k*4+1+1+1+1 from ZO];simp only[List.cons_append,List.nil_append,Lc,show k*4+1+1+1+1+1=k*4+1+1+1+1+1 from rfl,show k*4+1+1+1+1+2=k*4+2+1+1+1+1 from rfl,show k*4+1+1+1+1+3=k*4+3+1+1+1+1 from rfl]
theorem RRow.put4{α:Type}{C C':List Value→α→Prop}{ys:List α}{a b c d:Value}{k:Nat}{x':α}(h:RRow w base e 4 C (.slice (some ⟨g,0,none⟩) n cap) ys)(hk:k<ys.length)
 (hC:∀cs x,C cs x→C' cs x) (hx:C' [a,b,c,d] x') :
 RRow ((((w.setCell ⟨g,k*4,none⟩ a).setCell ⟨g,k*4+1,none⟩ b).setCell ⟨g,k*4+2,none⟩ c).setCell ⟨g,k*4+3,none⟩ d) base e 4 C' (.slice (some ⟨g,0,none⟩) n cap) (ys.set k x'):=by
 obtain⟨A,c1,hv⟩:=h.form;simp only[Value.slice.injEq]at hv;obtain⟨-,rfl,-⟩:=hv;obtain⟨ch,hl,hc,hr⟩:=h;have hcs:∀c∈ch,c.length=4:=fun cs hm=>by
  obtain⟨i,hi,rfl⟩:=List.getElem_of_mem hm;exact(hc i _ (ys[i]'(ZO)) (by simp[hi]) ZS).1
 refine⟨ch.set k [a,b,c,d],by simp[hl],fun i cs x h1 h2=>?_,?_⟩
 · by_cases hi:k=i
   · subst hi
     simp[hl,hk]at h1 h2;subst h1 h2;exact⟨rfl,hx⟩
   · rw[List.getElem?_set_ne hi]at h1 h2
     exact⟨(hc i cs x h1 h2).1,hC _ _ (hc i cs x h1 h2).2⟩
 · rw[flat_set4 hcs ZO,List.length_set]
   exact((((hr.stored (k*4) a).1.stored (k*4+1) b).1.stored (k*4+2) c).1.stored (k*4+3) d).1
theorem run_clearZ{P:Program}(w:World)(t e ty:TypeId)(z:Value)(ht:P.underlying t=some (.slice e))(hv:∀w,(zeroValue e).run P w=.ok z w)(h1:∀v∈z.cells.toList,v.oneCell'=true)(b o n c:Nat)(hn:0<n)
 (hc:∀j,j<n*z.cells.size→(w.cell? ⟨b,o+j,none⟩).isSome=true) (hf:∀j,j<n*z.cells.size→w.frozen? ⟨b,o+j,none⟩=false) :
 (Builtin.clear_ #[t] ty #[.slice (some ⟨b,o,none⟩) n c]).run P w=.ok (.tuple #[]) (w.setCells b o (Builtin.zeroCells z.cells n).toList):=by
 have hl:(Builtin.zeroCells z.cells n).toList.length=n*z.cells.size:=by simp[Builtin.zeroCells]
 have hst:=run_storeCells_cells (P:=P) b o (Builtin.zeroCells z.cells n).toList 0 w (by rw[hl];simpa using hc) (by rw[hl];simpa using hf) (by
  intro v hv';simp only[Builtin.zeroCells,Array.toList_map,List.mem_map]at hv';obtain⟨i,hi,rfl⟩:=hv';have hi2:i<n*z.cells.size:=by simpa using hi
  have hp:0<z.cells.size:=Nat.pos_of_ne_zero fun h=>by rw[h]at hi2;omega
  have hm:=Nat.mod_lt i hp;rw[getElem!_pos z.cells _ hm]
  exact h1 _ ZS)
 simp only[Nat.add_zero]at hst;obtain⟨m,rfl⟩:∃m,n=m+1:=⟨n-1,ZO⟩;simp[Builtin.clear_,run_underlying ht,hv,hst]
end
def zPhi:Value:=.agg #[.int .i64 0,.slice none 0 0,.slice none 0 0]
theorem zero_phi(w:World):(zeroValue 81).run Tryz.prog w=.ok zPhi w:=by kernel_rfl
set_option maxHeartbeats 4000000 in
theorem delPhi_calls{w:World}{base c0:Nat}{A:Option Addr}{xs:List PPhi}(h:RRow w base 81 3 (CPh w) (.slice A xs.length c0) xs)(hn:xs.length≤1048576)(k:FuncId)(c:Value)(p:PPhi→Bool)(eg:∀args w,(callFunc k args).run Tryz.prog w=.ok (.enter k args) w)
 (hp:∀x∈xs,∀A1 n1 c1 A2 n2 c2 w1,KT [37,4] w w1→Calls Tryz.prog k #[.agg #[.int .i64 x.dst,.slice A1 n1 c1,.slice A2 n2 c2],c] w1 fun e w'=>e=.returned (.bool (p x))∧Below w1.heap.size w1 w') :
 Calls Tryz.prog 36 #[.slice A xs.length c0,.func (.func k) #[] #[c]] w fun e w'=>e=.returned (.slice A (xs.filter fun x=>!p x).length c0)∧RRow w' base 81 3 (CPh w') (.slice A (xs.filter fun x=>!p x).length c0) (xs.filter fun x=>!p x)∧Kp (fun b=>(Value.slice A xs.length c0).ownBlock≠some b) w w':=by
 obtain⟨A',c',hv,hl,-,hr⟩:=phis_of h hn;simp only[Value.slice.injEq,true_and]at hv;obtain⟨rfl,rfl⟩:=hv
 have hi:=indexPhi_calls (b:=⟨.empty,xs,[],default⟩) (c0:=c0) hr hl (Br _ w) k c p eg (fun x hx pv hpv w1 hb=>by
  obtain⟨v1,v2,rfl,⟨A1,c1,rfl,-⟩,A2,c2,rfl,-⟩:=hpv
  exact hp x hx _ _ _ _ _ _ w1 (KT.of_below hb))
 simp only at hi;rcases firstIdx_spec (p:=p) xs 0 with⟨h1,h2⟩|⟨m,hm,h1,h2⟩
 · as_aux_lemma=>
   rw[h1]at hi;have H:=Lh h;have H2:=Lh h2;clear h hp hr h1 h2;go_enter Tryz.func36,Tryz.ntmps36;go_wp2_with(go_at_call 69;refine hi.mono ?_;rintro e w1 ⟨rfl,hb⟩);go_ret;rw[H2.out];exact⟨rfl,H.out.kt (KT.of_below hb (ts:=[3,81])) ZS (fun _ _ h=>h.kt (KT.of_below hb (ts:=[3])) ZS),Kp.below hb (fun _ h _=>h)⟩
 · as_aux_lemma=>
   rw[h1,Nat.zero_add]at hi;obtain⟨g,cap,-,hv,hcap,-⟩:=h.cells hm;simp only[Value.slice.injEq,true_and]at hv;obtain⟨rfl,rfl⟩:=hv;obtain⟨cells,hO⟩:=h.own;have HO:=Lh hO;have H:=Lh h;have HP:=Lh hp;have HS:=Lh (DelI.start hm h2);have hmx:((m:Int)==-1)=false:=beq_eq_false_iff_ne.2 ZO;have hcm:c0≤maxLen:=by
    rcases hO.2 with⟨h,-⟩|⟨g,cap,cur,h,-,-,-,h2,-⟩
    · cases h
    · cases h;exact h2
   unfold maxLen at hcm;clear h hO hp hr h1 h2;go_enter Tryz.func36,Tryz.ntmps36;go_wp2_with(go_at_call 69;refine hi.mono ?_;rintro e w1 ⟨rfl,hb⟩);have hk1:Kp (fun b=>(Value.slice (some ⟨g,0,none⟩) xs.length c0).ownBlock≠some b) w w1:=Kp.below hb (fun _ h _=>h);have hR1:RRow w1 base 81 3 (CPh w1) (.slice (some ⟨g,0,none⟩) xs.length c0) xs:=H.out.kt (KT.of_below hb (ts:=[3,81])) ZS (fun _ _ h=>h.kt (KT.of_below hb (ts:=[3])) ZS);clear hi hb
   go_loopw[5,6] (fun x5 x6 wr=>∃(i j:Nat) (ys:List PPhi),x5=.int .i64 i∧x6=.int .i64 j∧Hid (DelI p xs ys i j)∧RRow wr base 81 3 (CPh wr) (.slice (some ⟨g,0,none⟩) xs.length c0) ys∧Kp (fun b=>(Value.slice (some ⟨g,0,none⟩) xs.length c0).ownBlock≠some b) w wr) (fun _ x6 _=>xs.length-(intOf x6).toNat)
   case atStart=>exact⟨m,m+1,xs,rfl,ZN,HS.out,hR1,hk1⟩
   case round=>as_aux_lemma=>
    clear hR1 hk1;obtain⟨i,j,ys,rfl,rfl,HD,hR,hk⟩:=hrel;have hij:=HD.out.lt;have hyl:=HD.out.len;have hjl:=HD.out.le
    by_cases hlt:j<xs.length
    · as_aux_lemma=>
      have hltz:(j:Int)<(xs.length:Int):=by omega
      obtain⟨g',cap',cs,hv,-,-,hgl,hfz,hcl,hc,v1,v2,rfl,hd1,hd2⟩:=hR.cells (i:=j) ZO;simp only[Value.slice.injEq,Option.some.injEq,Addr.mk.injEq,and_true]at hv;obtain⟨rfl,-,rfl⟩:=hv;have hxj:=HD.out.at_ (List.getElem?_eq_getElem hlt);have hyj:ys[j]'(ZO)=xs[j]:=Option.some.inj ((List.getElem?_eq_getElem ZO).symm.trans hxj);rw[hyj]at hc hd1 hd2;have k0:=hc 0 _ rfl;have k1:=hc 1 _ rfl;have k2:=hc 2 _ rfl;simp only[Nat.add_zero]at k0;obtain⟨g',cap',csi,hv,-,-,-,-,hcl',hci,ui,ui',rfl,-⟩:=hR.cells (i:=i) ZO;simp only[Value.slice.injEq,Option.some.injEq,Addr.mk.injEq,and_true]at hv;obtain⟨rfl,-,rfl⟩:=hv;obtain⟨cells,hOr⟩:=hR.own;rw[hyl]at hOr;have hKT:KT [37,4] w wr:=KT.of_kp hk HO.out ZS;obtain⟨A1,e1,rfl,-,-,-⟩:=id hd1;obtain⟨A2,e2,rfl,-,-,-⟩:=id hd2;have hcall:=HP.out xs[j] (List.getElem_mem hlt) A1 xs[j].args.length e1 A2 xs[j].froms.length e2 (wr.alloc (.cells #[.int .i64 xs[j].dst,.slice A1 xs[j].args.length e1,.slice A2 xs[j].froms.length e2] 81)) (hKT.alloc _);have hbx:=BL_alloc wr (.cells #[.int .i64 xs[j].dst,.slice A1 xs[j].args.length e1,.slice A2 xs[j].froms.length e2] 81);have hxx:=BoxAt.new wr #[.int .i64 xs[j].dst,.slice A1 xs[j].args.length e1,.slice A2 xs[j].froms.length e2] 81;have HXX:=Lh hxx;have HBX:=Lh hbx;have HRR:=Lh hR;have HOR:=Lh hOr;have HDD:=Lh (show CPh wr [.int .i64 xs[j].dst,.slice A1 xs[j].args.length e1,.slice A2 xs[j].froms.length e2] xs[j]from⟨_,_,rfl,hd1,hd2⟩);have HK:=Lh hk;have HXJ:=Lh (List.getElem?_eq_getElem hlt);generalize xs[j]=x at *;generalize x.args.length=la at *;generalize x.froms.length=lf at *;clear hbx hxx hR hd1 hd2 hk hKT hOr hcl hcl' hc hci hxj hyj;cases hpx:p x
      · as_aux_lemma=>
        rw[hpx]at hcall;have HPX:=Lh hpx;clear hpx;go_wp2_with fail;refine hcall.mono ?_;rintro e w9 ⟨rfl,hb9⟩;have hb:=HBX.out.trans (hb9.mono HBX.out.size);have hx9:=HXX.out.below hb9 HXX.out.lt;have x0:=hx9.cell 0;have x1:=hx9.cell 1;have x2:=hx9.cell 2;have xl:=hx9.lt;simp at x0 x1 x2;have hR9:RRow w9 base 81 3 (CPh w9) (.slice (some ⟨g,0,none⟩) xs.length c0) ys:=HRR.out.kt (KT.of_below hb (ts:=[3,81])) ZS (fun _ _ h=>h.kt (KT.of_below hb (ts:=[3])) ZS);obtain⟨g',cap',csi,hv,-,-,hgl9,-,hcl',hci,ui,ui',rfl,-⟩:=hR9.cells (i:=i) ZO;simp only[Value.slice.injEq,Option.some.injEq,Addr.mk.injEq,and_true]at hv;obtain⟨rfl,-,rfl⟩:=hv;have i0:=hci 0 _ rfl;have i1:=hci 1 _ rfl;have i2:=hci 2 _ rfl;simp only[Nat.add_zero]at i0;have hO9:=own_below HOR.out hb;have f0:=hO9.frozenAt (i*3);have f1:=hO9.frozenAt (i*3+1);have f2:=hO9.frozenAt (i*3+2);have HR9:=Lh hR9;have HB:=Lh hb;have HO9:=Lh hO9;have iz:(i:Int)<(xs.length:Int):=by omega
        clear hR9 hb hO9 hb9 hx9 hcall hci hcl' k0 k1 k2;go_wp2;go_roundw
        case rel=>
         obtain⟨cur,hbg⟩:=own_box HO9.out;have hKT9:=KT.setCells (ts:=[3]) (t:=81) ZS [.int .i64 x.dst,.slice A1 la e1,.slice A2 lf e2] (o:=i*3) (KT.refl (w:=w9)) hbg;refine⟨i+1,j+1,ys.set i x,ZN,ZN,HD.out.keep hlt HXJ.out HPX.out,?_,?_⟩
         · exact RRow.put3 HR9.out ZO (fun _ _ h=>h.kt hKT9 ZS) (CPh.kt hKT9 ZS (CPh.kt (KT.of_below HB.out (ts:=[3])) ZS HDD.out))
         · have hng:¬(Value.slice (some ⟨g,0,none⟩) xs.length c0).ownBlock≠some g:=fun h=>h rfl
           exact(((HK.out.trans (Kp.below HB.out (fun _ h _=>h))).setCell (p:=⟨g,i*3,none⟩) hng _).setCell (p:=⟨g,i*3+1,none⟩) hng _).setCell (p:=⟨g,i*3+2,none⟩) hng _
        case measure=>simp[intOf];omega
      · as_aux_lemma=>
        rw[hpx]at hcall;have HPX:=Lh hpx;clear hpx;go_wp2_with fail;refine hcall.mono ?_;rintro e w9 ⟨rfl,hb9⟩;have hb:=Lh (HBX.out.trans (hb9.mono HBX.out.size));clear hb9;go_wp2;go_roundw
        case rel=>exact⟨i,j+1,ys,rfl,ZN,HD.out.skip hlt HXJ.out HPX.out,HRR.out.kt (KT.of_below hb.out (ts:=[3,81])) ZS (fun _ _ h=>h.kt (KT.of_below hb.out (ts:=[3])) ZS),HK.out.trans (Kp.below hb.out (fun _ h _=>h))⟩
        case measure=>simp[intOf];omega
    · as_aux_lemma=>
      obtain rfl:j=xs.length:=by omega
      obtain⟨f1,f2⟩:=HD.out.fin;obtain⟨cells,hOr⟩:=hR.own;rw[hyl]at hOr;have hcr:∀o,o<xs.length*3→(wr.cell? ⟨g,o,none⟩).isSome=true:=fun o ho=>by
       rw[hOr.cellAt o ho];have:o<cells.length:=by rw[hOr.1];exact ho
       simp[this]
      have hcl:=fun ty=>run_clearZ (P:=Tryz.prog) wr 39 81 ty zPhi Tryz.underlying39 zero_phi ZD g (i*3) (xs.length-i) (c0-i) ZO (fun j hj=>by
       have:zPhi.cells.size=3:=rfl
       exact hcr _ (by rw[this]at hj;omega)) (fun j _=>hOr.frozenAt (i*3+j))
      generalize (Builtin.zeroCells zPhi.cells (xs.length-i)).toList=Z at hcl;have HF1:=Lh f1;have HF2:=Lh f2;have HRR:=Lh (hR.cut (i:=i) ZO);have HK:=Lh hk;have HOR:=Lh hOr;have hic:i<c0:=by omega
      have hiz:(i:Int)≤(xs.length:Int):=by omega
      have hgl:=(hOr.lt _ rfl).2;clear f1 f2 hR hOr hk hcr;go_wp2_with(simp only[hcl]);go_ret;rw[← HF2.out,← HF1.out];obtain⟨cur,hbg⟩:=own_box HOR.out;have hKT:=KT.setCells (ts:=[3]) (t:=81) ZS Z (o:=i*3) (KT.refl (w:=wr)) hbg;exact⟨rfl,RRow.behind HRR.out (by rw[List.length_take];omega) (fun _ _ h=>CPh.kt hKT ZS h),Kp.setCells (fun h=>h rfl) _ HK.out⟩
def zInst:Value:=.agg #[.int .i64 0,.int .i64 0,.slice none 0 0,.int .i64 0]
theorem zero_inst(w:World):(zeroValue 49).run Tryz.prog w=.ok zInst w:=by kernel_rfl
set_option maxHeartbeats 4000000 in
theorem delInst_calls{w:World}{base c0:Nat}{A:Option Addr}{xs:List PInst}(h:RRow w base 49 4 (CIn w) (.slice A xs.length c0) xs)(hn:xs.length≤1048576)(k:FuncId)(c:Value)(p:PInst→Bool)(eg:∀args w,(callFunc k args).run Tryz.prog w=.ok (.enter k args) w)
 (hp:∀x∈xs,∀A1 n1 c1 w1,KT [37,4] w w1→Calls Tryz.prog k #[.agg #[.int .i64 x.op,.int .i64 x.dst,.slice A1 n1 c1,.int .i64 x.num],c] w1 fun e w'=>e=.returned (.bool (p x))∧Below w1.heap.size w1 w') :
 Calls Tryz.prog 38 #[.slice A xs.length c0,.func (.func k) #[] #[c]] w fun e w'=>e=.returned (.slice A (xs.filter fun x=>!p x).length c0)∧RRow w' base 49 4 (CIn w') (.slice A (xs.filter fun x=>!p x).length c0) (xs.filter fun x=>!p x)∧Kp (fun b=>(Value.slice A xs.length c0).ownBlock≠some b) w w':=by
 obtain⟨A',c',hv,hl,-,hr⟩:=insts_of h hn;simp only[Value.slice.injEq,true_and]at hv;obtain⟨rfl,rfl⟩:=hv
 have hi:=indexInst_calls (b:=⟨.empty,[],xs,default⟩) (c0:=c0) hr hl (Br _ w) k c p eg (fun x hx pv hpv w1 hb=>by
  obtain⟨v1,rfl,A1,c1,rfl,-⟩:=hpv
  exact hp x hx _ _ _ w1 (KT.of_below hb))
 simp only at hi;rcases firstIdx_spec (p:=p) xs 0 with⟨h1,h2⟩|⟨m,hm,h1,h2⟩
 · as_aux_lemma=>
   rw[h1]at hi;have H:=Lh h;have H2:=Lh h2;clear h hp hr h1 h2;go_enter Tryz.func38,Tryz.ntmps38;go_wp2_with(go_at_call 70;refine hi.mono ?_;rintro e w1 ⟨rfl,hb⟩);go_ret;rw[H2.out];exact⟨rfl,H.out.kt (KT.of_below hb (ts:=[3,49])) ZS (fun _ _ h=>h.kt (KT.of_below hb (ts:=[3])) ZS),Kp.below hb (fun _ h _=>h)⟩
 · as_aux_lemma=>
   rw[h1,Nat.zero_add]at hi;obtain⟨g,cap,-,hv,hcap,-⟩:=h.cells hm;simp only[Value.slice.injEq,true_and]at hv;obtain⟨rfl,rfl⟩:=hv;obtain⟨cells,hO⟩:=h.own;have HO:=Lh hO;have H:=Lh h;have HP:=Lh hp;have HS:=Lh (DelI.start hm h2);have hmx:((m:Int)==-1)=false:=beq_eq_false_iff_ne.2 ZO;have hcm:c0≤maxLen:=by
    rcases hO.2 with⟨h,-⟩|⟨g,cap,cur,h,-,-,-,h2,-⟩
    · cases h
    · cases h;exact h2
   unfold maxLen at hcm;clear h hO hp hr h1 h2;go_enter Tryz.func38,Tryz.ntmps38;go_wp2_with(go_at_call 70;refine hi.mono ?_;rintro e w1 ⟨rfl,hb⟩);have hk1:Kp (fun b=>(Value.slice (some ⟨g,0,none⟩) xs.length c0).ownBlock≠some b) w w1:=Kp.below hb (fun _ h _=>h);have hR1:RRow w1 base 49 4 (CIn w1) (.slice (some ⟨g,0,none⟩) xs.length c0) xs:=H.out.kt (KT.of_below hb (ts:=[3,49])) ZS (fun _ _ h=>h.kt (KT.of_below hb (ts:=[3])) ZS);clear hi hb
   go_loopw[5,6] (fun x5 x6 wr=>∃(i j:Nat) (ys:List PInst),x5=.int .i64 i∧x6=.int .i64 j∧Hid (DelI p xs ys i j)∧RRow wr base 49 4 (CIn wr) (.slice (some ⟨g,0,none⟩) xs.length c0) ys∧Kp (fun b=>(Value.slice (some ⟨g,0,none⟩) xs.length c0).ownBlock≠some b) w wr) (fun _ x6 _=>xs.length-(intOf x6).toNat)
   case atStart=>exact⟨m,m+1,xs,rfl,ZN,HS.out,hR1,hk1⟩
   case round=>as_aux_lemma=>
    clear hR1 hk1;obtain⟨i,j,ys,rfl,rfl,HD,hR,hk⟩:=hrel;have hij:=HD.out.lt;have hyl:=HD.out.len;have hjl:=HD.out.le
    by_cases hlt:j<xs.length
    · as_aux_lemma=>
      have hltz:(j:Int)<(xs.length:Int):=by omega
      obtain⟨g',cap',cs,hv,-,-,hgl,hfz,hcl,hc,v1,rfl,hd1⟩:=hR.cells (i:=j) ZO;simp only[Value.slice.injEq,Option.some.injEq,Addr.mk.injEq,and_true]at hv;obtain⟨rfl,-,rfl⟩:=hv;have hxj:=HD.out.at_ (List.getElem?_eq_getElem hlt);have hyj:ys[j]'(ZO)=xs[j]:=Option.some.inj ((List.getElem?_eq_getElem ZO).symm.trans hxj);rw[hyj]at hc hd1;have k0:=hc 0 _ rfl;have k1:=hc 1 _ rfl;have k2:=hc 2 _ rfl;have k3:=hc 3 _ rfl;simp only[Nat.add_zero]at k0;obtain⟨g',cap',csi,hv,-,-,-,-,hcl',hci,ui,rfl,-⟩:=hR.cells (i:=i) ZO;simp only[Value.slice.injEq,Option.some.injEq,Addr.mk.injEq,and_true]at hv;obtain⟨rfl,-,rfl⟩:=hv;obtain⟨cells,hOr⟩:=hR.own;rw[hyl]at hOr;have hKT:KT [37,4] w wr:=KT.of_kp hk HO.out ZS;obtain⟨A1,e1,rfl,-,-,-⟩:=id hd1;have hcall:=HP.out xs[j] (List.getElem_mem hlt) A1 xs[j].args.length e1 (wr.alloc (.cells #[.int .i64 xs[j].op,.int .i64 xs[j].dst,.slice A1 xs[j].args.length e1,.int .i64 xs[j].num] 49)) (hKT.alloc _);have hbx:=BL_alloc wr (.cells #[.int .i64 xs[j].op,.int .i64 xs[j].dst,.slice A1 xs[j].args.length e1,.int .i64 xs[j].num] 49);have hxx:=BoxAt.new wr #[.int .i64 xs[j].op,.int .i64 xs[j].dst,.slice A1 xs[j].args.length e1,.int .i64 xs[j].num] 49;have HXX:=Lh hxx;have HBX:=Lh hbx;have HRR:=Lh hR;have HOR:=Lh hOr;have HDD:=Lh (show CIn wr [.int .i64 xs[j].op,.int .i64 xs[j].dst,.slice A1 xs[j].args.length e1,.int .i64 xs[j].num] xs[j]from⟨_,rfl,hd1⟩);have HK:=Lh hk;have HXJ:=Lh (List.getElem?_eq_getElem hlt);generalize xs[j]=x at *;generalize x.args.length=la at *;clear hbx hxx hR hd1 hk hKT hOr hcl hcl' hc hci hxj hyj;cases hpx:p x
      · as_aux_lemma=>
        rw[hpx]at hcall;have HPX:=Lh hpx;clear hpx;go_wp2_with fail;refine hcall.mono ?_;rintro e w9 ⟨rfl,hb9⟩;have hb:=HBX.out.trans (hb9.mono HBX.out.size);have hx9:=HXX.out.below hb9 HXX.out.lt;have x0:=hx9.cell 0;have x1:=hx9.cell 1;have x2:=hx9.cell 2;have x3:=hx9.cell 3;have xl:=hx9.lt;simp at x0 x1 x2 x3;have hR9:RRow w9 base 49 4 (CIn w9) (.slice (some ⟨g,0,none⟩) xs.length c0) ys:=HRR.out.kt (KT.of_below hb (ts:=[3,49])) ZS (fun _ _ h=>h.kt (KT.of_below hb (ts:=[3])) ZS);obtain⟨g',cap',csi,hv,-,-,hgl9,-,hcl',hci,ui,rfl,-⟩:=hR9.cells (i:=i) ZO;simp only[Value.slice.injEq,Option.some.injEq,Addr.mk.injEq,and_true]at hv;obtain⟨rfl,-,rfl⟩:=hv;have i0:=hci 0 _ rfl;have i1:=hci 1 _ rfl;have i2:=hci 2 _ rfl;have i3:=hci 3 _ rfl;simp only[Nat.add_zero]at i0;have hO9:=own_below HOR.out hb;have f0:=hO9.frozenAt (i*4);have f1:=hO9.frozenAt (i*4+1);have f2:=hO9.frozenAt (i*4+2);have f3:=hO9.frozenAt (i*4+3);have HR9:=Lh hR9;have HB:=Lh hb;have HO9:=Lh hO9;have iz:(i:Int)<(xs.length:Int):=by omega
        clear hR9 hb hO9 hb9 hx9 hcall hci hcl' k0 k1 k2 k3;go_wp2;go_roundw
        case rel=>
         obtain⟨cur,hbg⟩:=own_box HO9.out;have hKT9:=KT.setCells (ts:=[3]) (t:=49) ZS [.int .i64 x.op,.int .i64 x.dst,.slice A1 la e1,.int .i64 x.num] (o:=i*4) (KT.refl (w:=w9)) hbg;refine⟨i+1,j+1,ys.set i x,ZN,ZN,HD.out.keep hlt HXJ.out HPX.out,?_,?_⟩
         · exact RRow.put4 HR9.out ZO (fun _ _ h=>h.kt hKT9 ZS) (CIn.kt hKT9 ZS (CIn.kt (KT.of_below HB.out (ts:=[3])) ZS HDD.out))
         · have hng:¬(Value.slice (some ⟨g,0,none⟩) xs.length c0).ownBlock≠some g:=fun h=>h rfl
           exact((((HK.out.trans (Kp.below HB.out (fun _ h _=>h))).setCell (p:=⟨g,i*4,none⟩) hng _).setCell (p:=⟨g,i*4+1,none⟩) hng _).setCell (p:=⟨g,i*4+2,none⟩) hng _).setCell (p:=⟨g,i*4+3,none⟩) hng _
        case measure=>simp[intOf];omega
      · as_aux_lemma=>
        rw[hpx]at hcall;have HPX:=Lh hpx;clear hpx;go_wp2_with fail;refine hcall.mono ?_;rintro e w9 ⟨rfl,hb9⟩;have hb:=Lh (HBX.out.trans (hb9.mono HBX.out.size));clear hb9;go_wp2;go_roundw
        case rel=>exact⟨i,j+1,ys,rfl,ZN,HD.out.skip hlt HXJ.out HPX.out,HRR.out.kt (KT.of_below hb.out (ts:=[3,49])) ZS (fun _ _ h=>h.kt (KT.of_below hb.out (ts:=[3])) ZS),HK.out.trans (Kp.below hb.out (fun _ h _=>h))⟩
        case measure=>simp[intOf];omega
    · as_aux_lemma=>
      obtain rfl:j=xs.length:=by omega
      obtain⟨f1,f2⟩:=HD.out.fin;obtain⟨cells,hOr⟩:=hR.own;rw[hyl]at hOr;have hcr:∀o,o<xs.length*4→(wr.cell? ⟨g,o,none⟩).isSome=true:=fun o ho=>by
       rw[hOr.cellAt o ho];have:o<cells.length:=by rw[hOr.1];exact ho
       simp[this]
      have hcl:=fun ty=>run_clearZ (P:=Tryz.prog) wr 40 49 ty zInst Tryz.underlying40 zero_inst ZD g (i*4) (xs.length-i) (c0-i) ZO (fun j hj=>by
       have:zInst.cells.size=4:=rfl
       exact hcr _ (by rw[this]at hj;omega)) (fun j _=>hOr.frozenAt (i*4+j))
      generalize (Builtin.zeroCells zInst.cells (xs.length-i)).toList=Z at hcl;have HF1:=Lh f1;have HF2:=Lh f2;have HRR:=Lh (hR.cut (i:=i) ZO);have HK:=Lh hk;have HOR:=Lh hOr;have hic:i<c0:=by omega
      have hiz:(i:Int)≤(xs.length:Int):=by omega
      have hgl:=(hOr.lt _ rfl).2;clear f1 f2 hR hOr hk hcr;go_wp2_with(simp only[hcl]);go_ret;rw[← HF2.out,← HF1.out];obtain⟨cur,hbg⟩:=own_box HOR.out;have hKT:=KT.setCells (ts:=[3]) (t:=49) ZS Z (o:=i*4) (KT.refl (w:=wr)) hbg;exact⟨rfl,RRow.behind HRR.out (by rw[List.length_take];omega) (fun _ _ h=>CIn.kt hKT ZS h),Kp.setCells (fun h=>h rfl) _ HK.out⟩
def keepP(l:List Bool)(p:PPhi):Bool:=l.getD p.dst.toNat false
def keepI(l:List Bool)(x:PInst):Bool:=staysI x||l.getD x.dst.toNat false
def swBlk(l:List Bool)(b:PBlock):PBlock:={ b with phis:=b.phis.filter (keepP l),insts:=b.insts.filter (keepI l) }
def SwF(l:List Bool)(F:PFunc):PFunc:={ F with blocks:=F.blocks.map (swBlk l) }
theorem sw_bnd{l:List Bool}{F:PFunc}(h:Bnd F):Bnd (SwF l F):=by
 have hb:∀b∈(SwF l F).blocks,∃a∈F.blocks,swBlk l a=b:=fun b hb=>List.mem_map.1 hb
 refine⟨h.vars,h.params,by simpa[SwF]using h.blocks,fun b hb'=>?_,fun b hb' p hp=>?_,fun b hb' x hx=>?_⟩
 · obtain⟨a,ha,rfl⟩:=hb b hb'
   have:=h.parts a ha;exact⟨Nat.le_trans (List.length_filter_le _ _) this.1,Nat.le_trans (List.length_filter_le _ _) this.2⟩
 · obtain⟨a,ha,rfl⟩:=hb b hb'
   exact h.pairs a ha p (List.mem_filter.1 hp).1
 · obtain⟨a,ha,rfl⟩:=hb b hb'
   exact h.args a ha x (List.mem_filter.1 hx).1
section
variable {w w':World} {base g n cap:Nat} {e:TypeId}
theorem flat_setJ{sz:Nat}{u:Value}:∀{ch:List (List Value)} {k j:Nat},(∀c∈ch,c.length=sz)→k<ch.length→j<sz→(ch.set k ((ch.getD k []).set j u)).flatten=ch.flatten.set (k*sz+j) u
 |[],k,j,_,hk,_=>by simp at hk
 |c0::ch,0,j,hs,_,hj=>by
  have h0:=hs c0 (List.mem_cons_self ..);simp only[Le,Lz,List.flatten_cons,Nat.zero_mul,Nat.zero_add];rw[List.set_append_left _ _ ZO]
 |c0::ch,k+1,j,hs,hk,hj=>by
  have h0:=hs c0 (List.mem_cons_self ..);have ih:=flat_setJ (u:=u) (ch:=ch) (k:=k) (j:=j) (fun c h=>hs c (List.mem_cons_of_mem _ h)) (by simpa using hk) hj;simp only[Ld,Lc,List.flatten_cons];have he:(k+1)*sz+j=c0.length+(k*sz+j):=by rw[Nat.succ_mul,h0];omega
  rw[ih,he,List.set_append_right _ _ ZO,Nat.add_sub_cancel_left]
theorem RRow.putJ{α:Type}{sz:Nat}{C C':List Value→α→Prop}{xs:List α}{i j:Nat}{u:Value}{x':α}(h:RRow w base e sz C (.slice (some ⟨g,0,none⟩) n cap) xs)(hi:i<xs.length)(hj:j<sz)
 (hC:∀(k:Nat) cs x,k≠i→xs[k]?=some x→C cs x→C' cs x) (hx:∀cs,C cs xs[i]→C' (cs.set j u) x'):RRow (w.setCell ⟨g,i*sz+j,none⟩ u) base e sz C' (.slice (some ⟨g,0,none⟩) n cap) (xs.set i x'):=by
 obtain⟨A,c1,hv⟩:=h.form;simp only[Value.slice.injEq]at hv;obtain⟨-,rfl,-⟩:=hv;obtain⟨ch,hl,hc,hr⟩:=h;have hcs:∀c∈ch,c.length=sz:=fun cs hm=>by
  obtain⟨i,hi,rfl⟩:=List.getElem_of_mem hm;exact(hc i _ (xs[i]'(ZO)) (by simp[hi]) ZS).1
 have hci:ch[i]?=some (ch.getD i []):=by simp[List.getD,hl,hi]
 have hci2:=hc i _ xs[i] hci (List.getElem?_eq_getElem hi);refine⟨ch.set i ((ch.getD i []).set j u),by simp[hl],fun k cs x h1 h2=>?_,?_⟩
 · by_cases hk:i=k
   · subst hk
     rw[List.getElem?_set_self ZO]at h1 h2;cases h1;cases h2;exact⟨by rw[List.length_set];exact hci2.1,hx _ hci2.2⟩
   · rw[List.getElem?_set_ne hk]at h1 h2
     exact⟨(hc k cs x h1 h2).1,hC k _ _ (fun e=>hk e.symm) h2 (hc k cs x h1 h2).2⟩
 · rw[flat_setJ hcs ZO hj,List.length_set]
   exact(hr.stored (i*sz+j) u).1
theorem CBO.kpI{v:Value}{n sz:Nat}{xs:List Value}{cs:List Value}{x:PBlock×Value×Value}(hx:CBO w base cs x)(h:Kp (fun b=>v.ownBlock≠some b) w w')(ho:w.ownsRow g 49 sz v n xs)(hd:∀k,x.2.2.ownBlock=some k→v.ownBlock≠some k):CBO w' base cs x:=by
 have hk:KT [3,81] w w':=KT.of_kp h ho ZS;exact⟨hx.1,hx.2.1,hx.2.2.1.kt hk ZS (fun _ _ h=>h.kt hk ZS),hx.2.2.2.turn (fun k e=>h.blk k (hd k e) (hx.2.2.2.lt e).2) (fun _ _ h=>h.kt hk ZS)⟩
end
theorem before_ne{qs:List (PBlock×Value×Value)}(h:qs.Pairwise Before){i k:Nat}{x q:PBlock×Value×Value}(hk:k≠i)(hx:qs[k]?=some x)(hq:qs[i]?=some q):(∀b,x.2.1.ownBlock=some b→q.2.1.ownBlock≠some b)∧∀b,x.2.2.ownBlock=some b→q.2.2.ownBlock≠some b:=by
 obtain⟨h1,rfl⟩:=List.getElem?_eq_some_iff.1 hx;obtain⟨h2,rfl⟩:=List.getElem?_eq_some_iff.1 hq;rcases Nat.lt_or_gt_of_ne hk with hlt|hlt
 · have:=List.pairwise_iff_getElem.1 h k i h1 h2 hlt
   exact⟨fun b e1 e2=>by have:=this.1 b b e1 e2;omega,fun b e1 e2=>by have:=this.2 b b e1 e2;omega⟩
 · have:=List.pairwise_iff_getElem.1 h i k h2 h1 hlt
   exact⟨fun b e1 e2=>by have:=this.1 b b e2 e1;omega,fun b e1 e2=>by have:=this.2 b b e2 e1;omega⟩
theorem before_set{qs:List (PBlock×Value×Value)}(h:qs.Pairwise Before){i:Nat}{q q':PBlock×Value×Value}(hq:qs[i]?=some q)(h1:q'.2.1.ownBlock=q.2.1.ownBlock)(h2:q'.2.2.ownBlock=q.2.2.ownBlock):(qs.set i q').Pairwise Before:=by
 have hget:∀(k:Nat) (hk:k<(qs.set i q').length),((qs.set i q')[k]).2.1.ownBlock=(qs[k]'(by simpa using hk)).2.1.ownBlock∧((qs.set i q')[k]).2.2.ownBlock=(qs[k]'(by simpa using hk)).2.2.ownBlock:=fun k hk=>by
  rw[List.getElem_set];split
  · rename_i e
    subst e;obtain⟨hl,e2⟩:=List.getElem?_eq_some_iff.1 hq;rw[e2];exact⟨h1,h2⟩
  · exact⟨rfl,rfl⟩
 rw[List.pairwise_iff_getElem]at h ⊢;intro a b ha hb hab;have:=h a b (by simpa using ha) (by simpa using hb) hab;unfold Before at *;rw[(hget a ha).1,(hget a ha).2,(hget b hb).1,(hget b hb).2];exact this
structure SwM (F:PFunc) (w:World) (base g6 gb cap:Nat) (vv vp:Value) (qs:List (PBlock×Value×Value)):Prop where
 box:BoxAt w g6 #[vv,vp,.slice (some ⟨gb,0,none⟩) qs.length cap] 26
 hV:RRow w base 70 2 CVar vv F.vars
 hI:w.ownsRow base 3 1 vp F.params.length (F.params.map (Value.int .i64))
 hq:RRow w base 46 7 (CBO w base) (.slice (some ⟨gb,0,none⟩) qs.length cap) qs
 pw:qs.Pairwise Before
section
variable {F:PFunc} {w w':World} {base g6 gb cap i:Nat} {vv vp:Value} {qs:List (PBlock×Value×Value)} {b:PBlock} {v1 v2:Value}
theorem SwM.rows(h:SwM F w base g6 gb cap vv vp qs)(hi:qs[i]?=some (b,v1,v2)):RRow w base 81 3 (CPh w) v1 b.phis∧RRow w base 49 4 (CIn w) v2 b.insts∧w.cell? ⟨gb,i*7+1,none⟩=some v1∧w.cell? ⟨gb,i*7+2,none⟩=some v2∧gb<w.heap.size∧base≤gb∧(∀j,w.frozen? ⟨gb,j,none⟩=false):=by
 obtain⟨hl,he⟩:=List.getElem?_eq_some_iff.1 hi;obtain⟨g',cap',cs,hv,-,hb,hgl,-,-,hc,e1,-,h1,h2⟩:=h.hq.cells hl;simp only[Value.slice.injEq,Option.some.injEq,Addr.mk.injEq,and_true]at hv;obtain⟨rfl,-,rfl⟩:=hv;rw[he]at e1 h1 h2;obtain⟨cells,hO⟩:=h.hq.own;exact⟨h1,h2,hc 1 _ (by rw[e1];rfl),hc 2 _ (by rw[e1];rfl),hgl,hb,fun j=>hO.frozenAt j⟩
theorem SwM.phis(h:SwM F w base g6 gb cap vv vp qs)(hi:qs[i]?=some (b,v1,v2)){v':Value}{ys:List PPhi}(hk:Kp (fun k=>v1.ownBlock≠some k) w w')(hr:RRow w' base 81 3 (CPh w') v' ys)(ho:v'.ownBlock=v1.ownBlock) :
 SwM F (w'.setCell ⟨gb,i*7+1,none⟩ v') base g6 gb cap vv vp (qs.set i ({ b with phis:=ys },v',v2)):=by
 obtain⟨hR1,hR2,-,-,-,-,-⟩:=h.rows hi;obtain⟨hl,he⟩:=List.getElem?_eq_some_iff.1 hi;obtain⟨cells1,hO1⟩:=hR1.own;have hkt:KT [3,49,46,70,26] w w':=KT.of_kp hk hO1 ZS;have hq1:RRow w' base 46 7 (CBO w base) (.slice (some ⟨gb,0,none⟩) qs.length cap) qs:=h.hq.kt hkt ZS (fun _ _ h=>h);obtain⟨cells,hO⟩:=hq1.own;obtain⟨cur,hbg⟩:=own_box hO;have hks:KT [3,81,49,70,26] w' (w'.setCell ⟨gb,i*7+1,none⟩ v'):=KT.refl.setCell hbg ZS _;have hbx:BoxAt w' g6 #[vv,vp,.slice (some ⟨gb,0,none⟩) qs.length cap] 26:=(hkt.blk g6 ⟨_,_,h.box,ZS⟩).trans h.box;refine⟨?_,(h.hV.kt hkt ZS (fun _ _ h=>h)).kt hks ZS (fun _ _ h=>h),own_kt (own_kt h.hI hkt ZS) hks ZS,?_,before_set h.pw hi ho rfl⟩
 · rw[List.length_set]
   exact(hks.blk g6 ⟨_,_,hbx,ZS⟩).trans hbx
 · rw[List.length_set]
   refine RRow.putJ hq1 hl ZD (fun k cs x hne hx hc=>?_) fun cs hc=>?_
   · exact CBO.kt hks ZS ZS ZS (CBO.kp hc hk hO1 ZD ZD (before_ne h.pw hne hx hi).1)
   · rw[he]at hc
     obtain⟨e1,e2,-,-⟩:=hc;rw[e1];exact⟨rfl,e2,hr.kt hks ZS (fun _ _ h=>h.kt hks ZS),(hR2.kt hkt ZS (fun _ _ h=>h.kt hkt ZS)).kt hks ZS (fun _ _ h=>h.kt hks ZS)⟩
theorem SwM.insts(h:SwM F w base g6 gb cap vv vp qs)(hi:qs[i]?=some (b,v1,v2)){v':Value}{ys:List PInst}(hk:Kp (fun k=>v2.ownBlock≠some k) w w')(hr:RRow w' base 49 4 (CIn w') v' ys)(ho:v'.ownBlock=v2.ownBlock) :
 SwM F (w'.setCell ⟨gb,i*7+2,none⟩ v') base g6 gb cap vv vp (qs.set i ({ b with insts:=ys },v1,v')):=by
 obtain⟨hR1,hR2,-,-,-,-,-⟩:=h.rows hi;obtain⟨hl,he⟩:=List.getElem?_eq_some_iff.1 hi;obtain⟨cells1,hO1⟩:=hR2.own;have hkt:KT [3,81,46,70,26] w w':=KT.of_kp hk hO1 ZS;have hq1:RRow w' base 46 7 (CBO w base) (.slice (some ⟨gb,0,none⟩) qs.length cap) qs:=h.hq.kt hkt ZS (fun _ _ h=>h);obtain⟨cells,hO⟩:=hq1.own;obtain⟨cur,hbg⟩:=own_box hO;have hks:KT [3,81,49,70,26] w' (w'.setCell ⟨gb,i*7+2,none⟩ v'):=KT.refl.setCell hbg ZS _;have hbx:BoxAt w' g6 #[vv,vp,.slice (some ⟨gb,0,none⟩) qs.length cap] 26:=(hkt.blk g6 ⟨_,_,h.box,ZS⟩).trans h.box;refine⟨?_,(h.hV.kt hkt ZS (fun _ _ h=>h)).kt hks ZS (fun _ _ h=>h),own_kt (own_kt h.hI hkt ZS) hks ZS,?_,before_set h.pw hi rfl ho⟩
 · rw[List.length_set]
   exact(hks.blk g6 ⟨_,_,hbx,ZS⟩).trans hbx
 · rw[List.length_set]
   refine RRow.putJ hq1 hl ZD (fun k cs x hne hx hc=>?_) fun cs hc=>?_
   · exact CBO.kt hks ZS ZS ZS (CBO.kpI hc hk hO1 (before_ne h.pw hne hx hi).2)
   · rw[he]at hc
     obtain⟨e1,e2,-,-⟩:=hc;rw[e1];exact⟨rfl,e2,(hR1.kt hkt ZS (fun _ _ h=>h.kt hkt ZS)).kt hks ZS (fun _ _ h=>h.kt hks ZS),hr.kt hks ZS (fun _ _ h=>h.kt hks ZS)⟩
end
structure IsB (w:World) (B ib gi n:Nat) (l:List Bool):Prop where
 cell:BoxAt w ib #[.slice (some ⟨gi,0,none⟩) n n] 37
 row:w.ownsRow B 4 1 (.slice (some ⟨gi,0,none⟩) n n) n (l.map Value.bool)
 len:l.length=n
theorem IsB.kt{w w':World}{B ib gi n:Nat}{l:List Bool}(h:IsB w B ib gi n l)(hk:KT [37,4] w w'):IsB w' B ib gi n l:=
 ⟨(hk.blk ib ⟨_,_,h.cell,ZS⟩).trans h.cell,own_kt h.row hk ZS,h.len⟩
theorem eg_sweep1:∀args w,(callFunc 37 args).run Tryz.prog w=.ok (.enter 37 args) w:=fun _ _=>by kernel_rfl
theorem eg_sweep2:∀args w,(callFunc 39 args).run Tryz.prog w=.ok (.enter 39 args) w:=fun _ _=>by kernel_rfl
theorem sweep1_calls{w:World}{B ib gi n n1 c1 n2 c2:Nat}{A1 A2:Option Addr}{l:List Bool}{d:Int}(h:IsB w B ib gi n l)(h0:0≤d)(h1:d<n) :
 Calls Tryz.prog 37 #[.agg #[.int .i64 d,.slice A1 n1 c1,.slice A2 n2 c2],.pointer (some ⟨ib,0,none⟩)] w fun e w'=>e=.returned (.bool (!l.getD d.toNat false))∧Below w.heap.size w w':=by
 obtain⟨f,rfl⟩:=Int.eq_ofNat_of_zero_le h0;have hfn:f<n:=by omega
 have hc:=own_bool h.row hfn;have hgl:=(h.row.lt _ rfl).2;have x0:=h.cell.cell 0;have xl:=h.cell.lt;simp at x0;rw[Int.toNat_natCast];generalize l.getD f false=bv at *;clear h;go_enter Tryz.func37,Tryz.ntmps37;go_wp2;go_ret;exact⟨rfl,BL⟩
theorem sweep2_calls{w:World}{B ib gi n n1 c1 o:Nat}{A1:Option Addr}{l:List Bool}{d num:Int}(h:IsB w B ib gi n l)(ho:o<27)(hd:staysB o=false→0≤d∧d<n) :
 Calls Tryz.prog 39 #[.agg #[.int .i64 o,.int .i64 d,.slice A1 n1 c1,.int .i64 num],.pointer (some ⟨ib,0,none⟩)] w fun e w'=>e=.returned (.bool (!(staysB o||l.getD d.toNat false)))∧Below w.heap.size w w':=by
 have hso:=fun w=>staysO_calls (w:=w) o ho
 cases hs:staysB o
 · as_aux_lemma=>
   obtain⟨h0,h1⟩:=hd hs;obtain⟨f,rfl⟩:=Int.eq_ofNat_of_zero_le h0;rw[hs]at hso;have hbx:=BL_alloc w (.cells #[.int .i64 o,.int .i64 (f:Int),.slice A1 n1 c1,.int .i64 num] 49);have hxx:=BoxAt.new w #[.int .i64 o,.int .i64 (f:Int),.slice A1 n1 c1,.int .i64 num] 49;have H:=Lh (h.kt (KT.of_below hbx));have HXX:=Lh hxx;have HBX:=Lh hbx;have hfn:f<n:=by omega
   obtain⟨bv,hbv⟩:∃bv,l.getD f false=bv:=⟨_,rfl⟩;rw[Int.toNat_natCast,hbv,Bool.false_or];have HBV:=Lh hbv;clear h hd hs hbx hxx hbv;go_enter Tryz.func39,Tryz.ntmps39;go_wp2_with fail;refine(hso _).mono ?_;rintro e w9 ⟨rfl,hb9⟩;have h9:=H.out.kt (KT.of_below hb9);have hx9:=HXX.out.below hb9 HXX.out.lt;have z1:=hx9.cell 1;have zl:=hx9.lt;have hc:=own_bool h9.row hfn;have hgl:=(h9.row.lt _ rfl).2;have x0:=h9.cell.cell 0;have xl:=h9.cell.lt;simp at x0 z1;have hB:=HBX.out.trans (hb9.mono HBX.out.size);have HB:=Lh hB;rw[HBV.out]at hc;clear h9 hx9 hb9 hB hso;go_wp2;go_ret;exact⟨rfl,HB.out⟩
 · as_aux_lemma=>
   rw[hs]at hso;have HBX:=Lh (BL_alloc w (.cells #[.int .i64 o,.int .i64 d,.slice A1 n1 c1,.int .i64 num] 49));clear h hd hs;go_enter Tryz.func39,Tryz.ntmps39;go_wp2_with fail;refine(hso _).mono ?_;rintro e w9 ⟨rfl,hb9⟩;have HB:=Lh (HBX.out.trans (hb9.mono HBX.out.size));clear hb9 hso;go_wp2;go_ret;exact⟨rfl,HB.out⟩
theorem single_once{F:PFunc}(h:singleB F=true):onceB F=true:=by
 unfold singleB at h;simp only[Bool.and_eq_true]at h;exact h.1.2
set_option maxHeartbeats 4000000 in
theorem deadNeeded_calls{W w:World}{fv:Value}{F:PFunc}(hU:Uni W)(hF:FnV W W.heap.size fv F)(hW:Below W.heap.size W w)(hS:Small F)(hB:Bnd F) :
 Calls Tryz.prog 12 #[fv] w fun e w'=>((rightS F=false∧e=.returned (.slice none 0 0))∨(rightS F=true∧∃g,e=.returned (.slice (some ⟨g,0,none⟩) F.vars.length F.vars.length)∧w'.ownsRow w.heap.size 4 1 (.slice (some ⟨g,0,none⟩) F.vars.length F.vars.length) F.vars.length ((ndL F).map Value.bool)))∧Below w.heap.size w w':=by
 have hrt:=fun(w':World) (h:Below W.heap.size W w')=>rightS_calls hU hF h hS hB
 have hWs:=hW.size;have hb0:=fun(w:World) vs t=>BL_alloc w (.cells vs t)
 cases hr:rightS F
 · as_aux_lemma=>
   rw[hr]at hrt;clear hr;obtain⟨A0,c0,A1,c1,A2,c2,rfl,-⟩:=id hF.open_;have HB0:=Lh (BL_alloc w (.cells #[.slice A0 F.vars.length c0,.slice A1 F.params.length c1,.slice A2 F.blocks.length c2] 26));have he:((errOf false:Int) !=0)=true:=by decide
   clear hF hb0;go_enter Tryz.func12,Tryz.ntmps12;go_wp2_with fail;refine(hrt _ (hW.trans (HB0.out.mono hWs))).mono ?_;rintro e w9 ⟨rfl,hb9⟩;have HB:=Lh (HB0.out.trans (hb9.mono HB0.out.size));clear hb9 hrt;go_wp2;go_ret;exact⟨.inl ⟨trivial,rfl⟩,HB.out⟩
 · as_aux_lemma=>
   rw[hr]at hrt;have hT:typedP F=true∧singleB F=true:=by
    unfold rightS at hr;simpa using hr
   have hnd:=fun(w':World) (h:Below W.heap.size W w')=>needed_calls hF h hT.1 (single_once hT.2)
   obtain⟨A0,c0,A1,c1,A2,c2,rfl,-⟩:=id hF.open_;have HB0:=Lh (BL_alloc w (.cells #[.slice A0 F.vars.length c0,.slice A1 F.params.length c1,.slice A2 F.blocks.length c2] 26));have HX0:=Lh (BoxAt.new w #[.slice A0 F.vars.length c0,.slice A1 F.params.length c1,.slice A2 F.blocks.length c2] 26);have he:((errOf true:Int) !=0)=false:=by decide
   have HW:=Lh hW;clear hF hb0 hT hr hW;go_enter Tryz.func12,Tryz.ntmps12;go_wp2_with fail;refine(hrt _ (HW.out.trans (HB0.out.mono hWs))).mono ?_;rintro e w9 ⟨rfl,hb9⟩;have HB:=Lh (HB0.out.trans (hb9.mono HB0.out.size));have hx9:=HX0.out.below hb9 HX0.out.lt;have x0:=hx9.cell 0;have x1:=hx9.cell 1;have x2:=hx9.cell 2;have xl:=hx9.lt;simp at x0 x1 x2;clear hb9 hrt hx9;go_wp2_with fail;refine(hnd _ (HW.out.trans (HB.out.mono hWs))).mono ?_;rintro e w8 ⟨g,rfl,ho8,hb8⟩;have HO8:=Lh ho8;have HB8:=Lh hb8;clear ho8 hb8 hnd;go_wp2;go_ret;exact⟨.inr ⟨trivial,g,rfl,own_base HO8.out HB.out.size⟩,HB.out.trans (HB8.out.mono HB.out.size)⟩
section
variable {F:PFunc} {w w':World} {base g6 gb cap i:Nat} {vv vp:Value} {qs:List (PBlock×Value×Value)} {b:PBlock} {v1 v2:Value}
theorem SwM.stands(h:SwM F w base g6 gb cap vv vp qs)(hi:qs[i]?=some (b,v1,v2))(hkt:KT [46,37,4,26] w w'):w'.cell? ⟨gb,i*7+1,none⟩=some v1∧w'.cell? ⟨gb,i*7+2,none⟩=some v2∧gb<w'.heap.size∧(∀j,w'.frozen? ⟨gb,j,none⟩=false)∧∃cur,BoxAt w' gb cur 46:=by
 obtain⟨hl,he⟩:=List.getElem?_eq_some_iff.1 hi;have hq1:RRow w' base 46 7 (CBO w base) (.slice (some ⟨gb,0,none⟩) qs.length cap) qs:=h.hq.kt hkt ZS (fun _ _ h=>h);obtain⟨g',cap',cs,hv,-,hb,hgl,-,-,hc,e1,-⟩:=hq1.cells hl;simp only[Value.slice.injEq,Option.some.injEq,Addr.mk.injEq,and_true]at hv;obtain⟨rfl,-,rfl⟩:=hv;rw[he]at e1;obtain⟨cells,hO⟩:=hq1.own;exact⟨hc 1 _ (by rw[e1];rfl),hc 2 _ (by rw[e1];rfl),hgl,fun j=>hO.frozenAt j,own_box hO⟩
theorem SwM.ktP(h:SwM F w base g6 gb cap vv vp qs)(hi:qs[i]?=some (b,v1,v2))(hk:Kp (fun k=>v1.ownBlock≠some k) w w'):KT [46,37,4,26] w w':=by
 obtain⟨cells,hO⟩:=(h.rows hi).1.own;exact KT.of_kp hk hO ZS
theorem SwM.ktI(h:SwM F w base g6 gb cap vv vp qs)(hi:qs[i]?=some (b,v1,v2))(hk:Kp (fun k=>v2.ownBlock≠some k) w w'):KT [46,37,4,26] w w':=by
 obtain⟨cells,hO⟩:=(h.rows hi).2.1.own;exact KT.of_kp hk hO ZS
end
def swMix(l:List Bool)(F:PFunc)(i:Nat):List PBlock:=(F.blocks.take i).map (swBlk l)++F.blocks.drop i
section
variable {F:PFunc} {l:List Bool} {i:Nat} {qs:List (PBlock×Value×Value)}
theorem swMix_at(hi:i<F.blocks.length)(h:qs.map Prod.fst=swMix l F i):∃v1 v2,qs[i]?=some (F.blk i,v1,v2):=by
 have h1:=congrArg (·[i]?) h;simp only[List.getElem?_map,swMix]at h1;rw[List.getElem?_append_right ZX]at h1;have hm:min i F.blocks.length=i:=by omega
 simp only[List.length_map,List.length_take,hm,Nat.sub_self,List.getElem?_drop,Nat.add_zero,PFunc.blk_get hi]at h1;obtain⟨⟨b,v1,v2⟩,hq,e⟩:=Option.map_eq_some_iff.1 h1;simp only at e;exact⟨v1,v2,by rw[hq,e]⟩
theorem swMix_set(hi:i<F.blocks.length)(h:qs.map Prod.fst=swMix l F i){v1 v2 v3 v4:Value}{b:PBlock}:((qs.set i (b,v1,v2)).set i (swBlk l (F.blk i),v3,v4)).map Prod.fst=swMix l F (i+1):=by
 rw[List.set_set,List.map_set,h];unfold swMix;have h1:((F.blocks.take i).map (swBlk l)).length=i:=by simp;omega
 rw[List.set_append_right _ _ ZO,h1,Nat.sub_self,List.drop_eq_getElem_cons hi,Lz,List.take_add_one,PFunc.blk_get hi,Option.toList_some,List.map_append,List.append_assoc];rfl
theorem swMix_end:swMix l F F.blocks.length=(SwF l F).blocks:=by simp[swMix,SwF]
theorem swMix_len(h:qs.map Prod.fst=swMix l F i):qs.length=F.blocks.length:=by
 have:=congrArg List.length h;simp only[List.length_map,swMix,List.length_append,List.length_take,List.length_drop]at this;omega
end
theorem own_same{B:Option Addr}{n c m d:Nat}:(Value.slice B n c).ownBlock=(Value.slice B m d).ownBlock:=by cases B<;>rfl
def RetSw(w:World)(F:PFunc)(e:Ending)(w':World):Prop:=
 ((rightS F=false∧e=.returned (.tuple #[.agg #[.slice none 0 0,.slice none 0 0,.slice none 0 0],.int .i64 3]))∨(rightS F=true∧∃v,e=.returned (.tuple #[v,.int .i64 0])∧FnV w' w'.heap.size v (SwF (ndL F) F)))∧Below w.heap.size w w'
set_option maxHeartbeats 8000000 in
theorem sweep_calls{W w:World}{fv:Value}{F:PFunc}(hU:Uni W)(hF:FnV W W.heap.size fv F)(hW:Below W.heap.size W w)(hS:Small F)(hN:Bnd F):Calls Tryz.prog 15 #[fv] w (RetSw w F):=by
 have hrt:=fun(w':World) (h:Below W.heap.size W w')=>rightS_calls hU hF h hS hN
 have hWs:=hW.size;have hb2:=fun vs t=>(BL_alloc w (.cells vs t)).trans ((BL_alloc (w.alloc (.cells vs t)) (.cells #[.slice none 0 0,.slice none 0 0,.slice none 0 0] 26)).mono ZS)
 unfold RetSw;cases hr:rightS F
 · as_aux_lemma=>
   rw[hr]at hrt;clear hr;obtain⟨A0,c0,A1,c1,A2,c2,rfl,-⟩:=id hF.open_;have HB0:=Lh (hb2 #[.slice A0 F.vars.length c0,.slice A1 F.params.length c1,.slice A2 F.blocks.length c2] 26);have HX:=Lh (BoxAt.new (w.alloc (.cells #[.slice A0 F.vars.length c0,.slice A1 F.params.length c1,.slice A2 F.blocks.length c2] 26)) #[.slice none 0 0,.slice none 0 0,.slice none 0 0] 26);have he:((errOf false:Int) !=0)=true:=by decide
   clear hF hb2;go_enter Tryz.func15,Tryz.ntmps15;go_wp2_with fail;refine(hrt _ (hW.trans (HB0.out.mono hWs))).mono ?_;rintro e w9 ⟨rfl,hb9⟩;have HB:=Lh (HB0.out.trans (hb9.mono HB0.out.size));have hx9:=HX.out.below hb9 HX.out.lt;have y0:=hx9.cell 0;have y1:=hx9.cell 1;have y2:=hx9.cell 2;have yl:=hx9.lt;have f0:=hx9.frozen 0;have f1:=hx9.frozen 1;have f2:=hx9.frozen 2;simp at y0 y1 y2 yl f0 f1 f2;have hw1:(w.alloc (.cells #[.slice A0 F.vars.length c0,.slice A1 F.params.length c1,.slice A2 F.blocks.length c2] 26)).heap.size=w.heap.size+1:=by simp
   rw[hw1]at hx9;have HX9:=Lh hx9;clear hb9 hrt hx9;go_wp2;have hz:=HX9.out.set3 (a:=.slice none 0 0) (b:=.slice none 0 0) (c:=.slice none 0 0);have z0:=hz.cell 0;have z1:=hz.cell 1;have z2:=hz.cell 2;simp only[List.getElem?_toArray,List.getElem?_cons_zero,List.getElem?_cons_succ]at z0 z1 z2;have hBz:=((HB.out.setCell (p:=⟨w.heap.size+1,0,none⟩) ZS (.slice none 0 0)).setCell (p:=⟨w.heap.size+1,1,none⟩) ZS (.slice none 0 0)).setCell (p:=⟨w.heap.size+1,2,none⟩) ZS (.slice none 0 0);exact bodyPost_ret (v:=.tuple #[.agg #[.slice none 0 0,.slice none 0 0,.slice none 0 0],.int .i64 3]) (by simp[results,Tryz.results15,go_sem,z0,z1,z2,errOf]) rfl ⟨.inl ⟨trivial,rfl⟩,hBz⟩
 · as_aux_lemma=>
   rw[hr]at hrt;have hT:typedP F=true∧singleB F=true:=by
    unfold rightS at hr;simpa using hr
   have nv:=typed_vars hT.1;obtain⟨n1,n2⟩:=shaped_count (typed_shaped hT.1);have hnd:=fun(w':World) (h:Below W.heap.size W w')=>needed_calls hF h hT.1 (single_once hT.2)
   have hcp:=fun(w':World) (h:Below W.heap.size W w')=>copy_calls hF h hN
   have HRG:=Lh (rngF_of hT.1);have HOP:=Lh (fun i (hi:i<F.blocks.length)=>fun x hx=>inst_op ((shaped_blk (typed_shaped hT.1) hi).2.1 x hx));obtain⟨A0,c0,A1,c1,A2,c2,rfl,-⟩:=id hF.open_;have hx0:=BoxAt.new w #[.slice A0 F.vars.length c0,.slice A1 F.params.length c1,.slice A2 F.blocks.length c2] 26;have HX0:=Lh (hx0.alloc (.cells #[.slice none 0 0,.slice none 0 0,.slice none 0 0] 26));have hx1:=BoxAt.new (w.alloc (.cells #[.slice A0 F.vars.length c0,.slice A1 F.params.length c1,.slice A2 F.blocks.length c2] 26)) #[.slice none 0 0,.slice none 0 0,.slice none 0 0] 26;have hw1:(w.alloc (.cells #[.slice A0 F.vars.length c0,.slice A1 F.params.length c1,.slice A2 F.blocks.length c2] 26)).heap.size=w.heap.size+1:=by simp
   rw[hw1]at hx1;have HX1:=Lh hx1;have HB0:=Lh (hb2 #[.slice A0 F.vars.length c0,.slice A1 F.params.length c1,.slice A2 F.blocks.length c2] 26);have he:((errOf true:Int) !=0)=false:=by decide
   have HW:=Lh hW;have HNB:=Lh hN;clear hF hb2 hT hr hW hx0 hx1 hN;go_enter Tryz.func15,Tryz.ntmps15;go_wp2_with fail;refine(hrt _ (HW.out.trans (HB0.out.mono hWs))).mono ?_;rintro e w3 ⟨rfl,hb3⟩;have HB3:=Lh (HB0.out.trans (hb3.mono HB0.out.size));have hx3:=HX0.out.below hb3 HX0.out.lt;have y3:=HX1.out.below hb3 HX1.out.lt;have x0:=hx3.cell 0;have x1:=hx3.cell 1;have x2:=hx3.cell 2;have xl:=hx3.lt;simp at x0 x1 x2;have HX3:=Lh hx3;have HY3:=Lh y3;clear hb3 hrt hx3 y3;go_wp2_with fail;refine(hnd _ (HW.out.trans (HB3.out.mono hWs))).mono ?_;rintro e w4 ⟨gi,rfl,ho4,hb4⟩;have hb4':=hb4.trans ((BL_alloc w4 (.cells #[.slice (some ⟨gi,0,none⟩) F.vars.length F.vars.length] 37)).mono hb4.size);have hIs:IsB (w4.alloc (.cells #[.slice (some ⟨gi,0,none⟩) F.vars.length F.vars.length] 37)) w3.heap.size w4.heap.size gi F.vars.length (ndL F):=⟨BoxAt.new _ _ _,ho4.alloc _,by simp[ndL]⟩;have HX4:=Lh (HX3.out.below hb4' HX3.out.lt);have HY4:=Lh (HY3.out.below hb4' HY3.out.lt);have HB4:=Lh (HB3.out.trans (hb4'.mono HB3.out.size));have HIS:=Lh hIs;have x0':=(hb4.cell (p:=⟨w.heap.size,0,none⟩) xl).trans x0;have x1':=(hb4.cell (p:=⟨w.heap.size,1,none⟩) xl).trans x1;have x2':=(hb4.cell (p:=⟨w.heap.size,2,none⟩) xl).trans x2;have xl':=Nt xl hb4.size;clear hb4 hb4' hIs ho4 x0 x1 x2 xl hnd;go_wp2_with fail;refine(hcp _ (HW.out.trans (HB4.out.mono hWs))).mono ?_;rintro e w5 ⟨vv,vp,vb,ps,rfl,hV,hI,hm,hq,hpw,hb5⟩;obtain⟨Av,cv,rfl⟩:=hV.form;obtain⟨Ai,ci,rfl⟩:=own_form hI;have hpl:ps.length=F.blocks.length:=by have:=congrArg List.length hm;simpa using this
   obtain⟨gb,cb,-,rfl,-⟩:=hq.cells (i:=0) ZO;have hBA:=hb5.trans ((BL_alloc w5 (.cells #[.slice Av F.vars.length cv,.slice Ai F.params.length ci,.slice (some ⟨gb,0,none⟩) ps.length cb] 26)).mono hb5.size);have hB5A:=BL_alloc w5 (.cells #[.slice Av F.vars.length cv,.slice Ai F.params.length ci,.slice (some ⟨gb,0,none⟩) ps.length cb] 26);have hkA:KT [3,81,49,46,70] w5 (w5.alloc (.cells #[.slice Av F.vars.length cv,.slice Ai F.params.length ci,.slice (some ⟨gb,0,none⟩) ps.length cb] 26)):=KT.of_below hB5A;have hSw:SwM F (w5.alloc (.cells #[.slice Av F.vars.length cv,.slice Ai F.params.length ci,.slice (some ⟨gb,0,none⟩) ps.length cb] 26)) (w4.alloc (.cells #[.slice (some ⟨gi,0,none⟩) F.vars.length F.vars.length] 37)).heap.size w5.heap.size gb cb (.slice Av F.vars.length cv) (.slice Ai F.params.length ci) ps:=
    ⟨BoxAt.new _ _ _,hV.move hB5A (fun _ _ h=>h),own_below hI hB5A,hq.kt hkA ZS (fun _ _ h=>CBO.kt hkA ZS ZS ZS h),hpw⟩
   have HSW:=Lh hSw;have HMX:=Lh (show ps.map Prod.fst=swMix (ndL F) F 0 by rw[hm];simp[swMix]);have HYA:=Lh (HY4.out.below hBA HY4.out.lt);have HISA:=Lh (HIS.out.kt (KT.of_below hBA));have HBA:=Lh (HB4.out.trans (hBA.mono HB4.out.size));have hzA:w.heap.size≤(w4.alloc (.cells #[.slice (some ⟨gi,0,none⟩) F.vars.length F.vars.length] 37)).heap.size:=HB4.out.size;generalize (w4.alloc (.cells #[.slice (some ⟨gi,0,none⟩) F.vars.length F.vars.length] 37)).heap.size=base at *;have HPL:=Lh hpl;have hpl64:ps.length≤64:=by omega
   obtain⟨wA,hwA⟩:∃wA,wA=w5.alloc (.cells #[.slice Av F.vars.length cv,.slice Ai F.params.length ci,.slice (some ⟨gb,0,none⟩) ps.length cb] 26):=⟨_,rfl⟩;rw[← hwA]at HSW HYA HISA HBA;have HWA:=Lh hwA;clear hV hI hm hq hpw hb5 hBA hB5A hkA hSw hcp x0' x1' x2' xl' hpl hwA;go_wp2_with fail;rw[← HWA.out];clear HWA;generalize w5.heap.size=g6 at *;generalize w4.heap.size=ib at *
   go_loopw[22] (fun x wr=>∃(i:Nat) (qs:List (PBlock×Value×Value)),x=.int .i64 i∧i≤ps.length∧SwM F wr base g6 gb cb (.slice Av F.vars.length cv) (.slice Ai F.params.length ci) qs∧Hid (qs.map Prod.fst=swMix (ndL F) F i)∧IsB wr w3.heap.size ib gi F.vars.length (ndL F)∧BoxAt wr (w.heap.size+1) #[.slice none 0 0,.slice none 0 0,.slice none 0 0] 26∧Below w.heap.size w wr) (fun x _=>ps.length-(intOf x).toNat)
   case atStart=>exact⟨0,ps,rfl,Nz _,HSW.out,HMX.out,HISA.out,HYA.out,HBA.out⟩
   case round=>as_aux_lemma=>
    clear HSW HMX HISA HYA HBA HX4 HY4 HB4 HIS HX3 HY3 HX0 HX1;obtain⟨i,qs,rfl,hi,hSw,HM,hIs,hRe,hB⟩:=hrel;have hql:=swMix_len HM.out
    by_cases hlt:i<ps.length
    · as_aux_lemma=>
      have hiF:i<F.blocks.length:=by rw[← HPL.out];exact hlt
      obtain⟨v1,v2,hqi⟩:=swMix_at hiF HM.out;obtain⟨hR1,hR2,c1,c2,hgl,hbg,hfz⟩:=hSw.rows hqi;obtain⟨B1,d1,rfl⟩:=hR1.form;obtain⟨B2,d2,rfl⟩:=hR2.form;have hb:=HNB.out.parts _ (mem_of_blk hiF)
      have hd1:=delPhi_calls hR1 ZO 37 (.pointer (some ⟨ib,0,none⟩)) (fun x=>!keepP (ndL F) x) eg_sweep1 (fun x hx A1 n1 c1 A2 n2 c2 w1 hk=>by
       have hr:=(HRG.out.it (phiIt x) (List.mem_flatMap.2 ⟨_,mem_of_blk hiF,List.mem_append_left _ (List.mem_map.2 ⟨x,hx,rfl⟩)⟩)).1
       exact sweep1_calls (hIs.kt hk) hr.1 hr.2)
      simp only[Bool.not_not]at hd1;have x2:=hSw.box.cell 2;have xl:=hSw.box.lt;simp at x2;have hiq:(i:Int)<(qs.length:Int):=by omega
      have HSW:=Lh hSw;have HQI:=Lh hqi;have HIS:=Lh hIs;have HRE:=Lh hRe;have HBB:=Lh hB;have HBL:=Lh hbg;clear hR1 hR2 hSw hqi hIs hRe hB hfz c2 hbg;go_wp2_with fail;refine hd1.mono ?_;rintro e w7 ⟨rfl,hr7,hk7⟩;have hkt7:=HSW.out.ktP HQI.out hk7;obtain⟨c1',c2',gl7,fz7,cur7,hbx7⟩:=HSW.out.stands HQI.out hkt7;have fz71:=fz7 (i*7+1);have fz72:=fz7 (i*7+2);have hSw7:=HSW.out.phis HQI.out hk7 hr7 own_same;have hil:i<qs.length:=by omega
      have hqi7:=List.getElem?_set_self (a:=(({ F.blk i with phis:=(F.blk i).phis.filter (keepP (ndL F)) },.slice B1 ((F.blk i).phis.filter (keepP (ndL F))).length d1,.slice B2 (F.blk i).insts.length d2):PBlock×Value×Value)) hil;obtain⟨-,hR2,-,-,-,-,-⟩:=hSw7.rows hqi7;have hkt8:=KT.setCell (ts:=[37,4,26]) (j:=i*7+1) KT.refl hbx7 ZS (.slice B1 ((F.blk i).phis.filter (keepP (ndL F))).length d1);have hIs7:=(HIS.out.kt ⟨hkt7.size,fun b h=>hkt7.blk b (h.mono ZS)⟩).kt ⟨hkt8.size,fun b h=>hkt8.blk b (h.mono ZS)⟩;have hRe7:=(hkt7.blk (w.heap.size+1) ⟨_,_,HRE.out,ZS⟩).trans HRE.out;have hRe8:=(hkt8.blk (w.heap.size+1) ⟨_,_,hRe7,ZS⟩).trans hRe7
      have hB8:=(HBB.out.trans (hk7.to_below (fun k hk e=>by
       obtain⟨cells,hO⟩:=(HSW.out.rows HQI.out).1.own;have:=(own_lt hO e).1
       omega) HBB.out.size)).setCell (p:=⟨gb,i*7+1,none⟩) (by have:=HBL.out;simp only;omega) (.slice B1 ((F.blk i).phis.filter (keepP (ndL F))).length d1)
      have hd2:=delInst_calls hR2 (by show(F.blk i).insts.length≤_;omega) 39 (.pointer (some ⟨ib,0,none⟩)) (fun x=>!keepI (ndL F) x) eg_sweep2 (fun x hx A1 n1 c1 w1 hk=>by
       obtain⟨o0,o1⟩:=HOP.out i hiF x hx;obtain⟨o,ho⟩:=Int.eq_ofNat_of_zero_le o0;rw[ho];have hkI:keepI (ndL F) x=(staysB o||(ndL F).getD x.dst.toNat false):=by unfold keepI staysI;rw[ho,Int.toNat_natCast]
       rw[hkI];refine sweep2_calls (hIs7.kt hk) ZO fun hs=>?_
       exact(HRG.out.it (x.dst,x.args) (List.mem_flatMap.2 ⟨_,mem_of_blk hiF,List.mem_append_right _ (List.mem_map.2 ⟨x,List.mem_filter.2 ⟨hx,by unfold staysI;rw[ho,Int.toNat_natCast,hs];rfl⟩,rfl⟩)⟩)).1)
      simp only[Bool.not_not]at hd2;have HSW7:=Lh hSw7;have HQI7:=Lh hqi7;have HIS7:=Lh hIs7;have HRE8:=Lh hRe8;have HB8:=Lh hB8;have HIL:=Lh hil;clear hSw7 hqi7 hIs7 hRe7 hRe8 hB8 hil hkt7 hkt8 hr7 hk7 hR2 c1 hd1 fz7 hbx7 hb x2 xl hgl;go_wp2_with fail;refine hd2.mono ?_;rintro e w9 ⟨rfl,hr9,hk9⟩;have hkt9:=HSW7.out.ktI HQI7.out hk9;obtain⟨c1',c2',gl9,fz9,cur9,hbx9⟩:=HSW7.out.stands HQI7.out hkt9;have fz92:=fz9 (i*7+2);have hSw9:=HSW7.out.insts HQI7.out hk9 hr9 own_same;have hkt8:=KT.setCell (ts:=[37,4,26]) (j:=i*7+2) KT.refl hbx9 ZS (.slice B2 ((F.blk i).insts.filter (keepI (ndL F))).length d2);have hIs9:=(HIS7.out.kt ⟨hkt9.size,fun b h=>hkt9.blk b (h.mono ZS)⟩).kt ⟨hkt8.size,fun b h=>hkt8.blk b (h.mono ZS)⟩;have hRe7:=(hkt9.blk (w.heap.size+1) ⟨_,_,HRE8.out,ZS⟩).trans HRE8.out;have hRe9:=(hkt8.blk (w.heap.size+1) ⟨_,_,hRe7,ZS⟩).trans hRe7
      have hB9:=(HB8.out.trans (hk9.to_below (fun k hk e=>by
       obtain⟨cells,hO⟩:=(HSW7.out.rows HQI7.out).2.1.own;have:=(own_lt hO e).1
       omega) HB8.out.size)).setCell (p:=⟨gb,i*7+2,none⟩) (by have:=HBL.out;simp only;omega) (.slice B2 ((F.blk i).insts.filter (keepI (ndL F))).length d2)
      have HSW9:=Lh hSw9;have HIS9:=Lh hIs9;have HRE9:=Lh hRe9;have HB9:=Lh hB9;clear hSw9 hIs9 hRe7 hRe9 hB9 hkt9 hkt8 hr9 hk9 fz9 hbx9 hd2 c1';go_wp2;go_roundw
      case rel=>exact⟨i+1,_,ZN,ZO,HSW9.out,swMix_set hiF HM.out,HIS9.out,HRE9.out,HB9.out⟩
      case measure=>simp[intOf];omega
    · as_aux_lemma=>
      obtain rfl:i=ps.length:=by omega
      rw[HPL.out,swMix_end]at HM;have z1:=hSw.box.cell 0;have z2:=hSw.box.cell 1;have z3:=hSw.box.cell 2;have zl:=hSw.box.lt;have y0:=hRe.cell 0;have y1:=hRe.cell 1;have y2:=hRe.cell 2;have yl:=hRe.lt;have f0:=hRe.frozen 0;have f1:=hRe.frozen 1;have f2:=hRe.frozen 2;simp at z1 z2 z3 y0 y1 y2;have HRE:=Lh hRe;have HSW:=Lh hSw;have HBB:=Lh hB;clear hRe hSw hB hIs hql;go_wp2;have hz:=HRE.out.set3 (a:=.slice Av F.vars.length cv) (b:=.slice Ai F.params.length ci) (c:=.slice (some ⟨gb,0,none⟩) qs.length cb);have z0:=hz.cell 0;have z1:=hz.cell 1;have z2:=hz.cell 2;simp only[List.getElem?_toArray,List.getElem?_cons_zero,List.getElem?_cons_succ]at z0 z1 z2;have hKe:KT [3,81,49,70,46] wr (((wr.setCell ⟨w.heap.size+1,0,none⟩ (.slice Av F.vars.length cv)).setCell ⟨w.heap.size+1,1,none⟩ (.slice Ai F.params.length ci)).setCell ⟨w.heap.size+1,2,none⟩ (.slice (some ⟨gb,0,none⟩) qs.length cb)):=
       ((KT.refl.setCell HRE.out ZS _).setCell (HRE.out.set 0 _) ZS _).setCell ((HRE.out.set 0 _).set 1 _) ZS _
      have hfin:=fn_of (F:=SwF (ndL F) F) (HSW.out.hV.kt hKe ZS (fun _ _ h=>h)) (own_kt HSW.out.hI hKe ZS) (HSW.out.hq.kt hKe ZS (fun _ _ h=>CBO.kt hKe ZS ZS ZS h)) HM.out (sw_bnd HNB.out);have hBz:=((HBB.out.setCell (p:=⟨w.heap.size+1,0,none⟩) ZS (.slice Av F.vars.length cv)).setCell (p:=⟨w.heap.size+1,1,none⟩) ZS (.slice Ai F.params.length ci)).setCell (p:=⟨w.heap.size+1,2,none⟩) ZS (.slice (some ⟨gb,0,none⟩) qs.length cb);exact bodyPost_ret (v:=.tuple #[.agg #[.slice Av F.vars.length cv,.slice Ai F.params.length ci,.slice (some ⟨gb,0,none⟩) qs.length cb],.int .i64 0]) (by simp[results,Tryz.results15,go_sem,z0,z1,z2]) rfl ⟨.inr ⟨trivial,_,rfl,hfin⟩,hBz⟩
end Go.Proofs.YtkfobmdodegigaaGreatDoor
