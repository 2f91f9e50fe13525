/- A program that was built in new memory is a program like any other; and an element of a row is set anew. No program's code in sight. -/
import Derived.Test.YtlhhfcleioikoaaGreatDoorCpM
namespace Go.Proofs.YtlhhfcleioikoaaGreatDoor
open Go.RowKit
set_option maxRecDepth 100000
theorem phis_of{w:World}{base:Nat}{v:Value}{xs:List PPhi}(h:RRow w base 66 3 (CPh w) v xs)(hn:xs.length≤1048576):SPhis w w.heap.size v xs:=
 DRow.rd (h.done (D:=fun _=>True) hn (fun _ _ _=>trivial)) (fun _ h _=>h) fun b o cs x _ _ hc e=>by
  obtain⟨v1,v2,rfl,h1,h2⟩:=e;exact⟨hc 0 _ rfl,⟨v1,hc 1 _ rfl,h1.rd fun _ h _=>h⟩,v2,hc 2 _ rfl,h2.rd fun _ h _=>h⟩
theorem insts_of{w:World}{base:Nat}{v:Value}{xs:List PInst}(h:RRow w base 47 4 (CIn w) v xs)(hn:xs.length≤1048576):SInsts w w.heap.size v xs:=
 DRow.rd (h.done (D:=fun _=>True) hn (fun _ _ _=>trivial)) (fun _ h _=>h) fun b o cs x _ _ hc e=>by
  obtain⟨v1,rfl,h1⟩:=e;exact⟨hc 0 _ rfl,hc 1 _ rfl,⟨v1,hc 2 _ rfl,h1.rd fun _ h _=>h⟩,hc 3 _ rfl⟩
theorem blks_of{w:World}{base:Nat}{v:Value}{ps:List (PBlock×Value×Value)}(h:RRow w base 42 7 (CBO w base) v ps)(hn:ps.length≤1048576)
 (hp:∀p∈ps,p.1.phis.length≤1048576∧p.1.insts.length≤1048576):SBlks w w.heap.size v (ps.map Prod.fst):=by
 obtain⟨A,c,rfl,hl,hc,hr⟩:=h.done (D:=fun _=>True) hn (fun _ _ _=>trivial);refine⟨A,c,by rw[List.length_map],by rw[List.length_map];exact hl,by rw[List.length_map];exact hc,fun i x hx=>?_⟩;rw[List.getElem?_map]at hx;obtain⟨p,hx2,rfl⟩:=Option.map_eq_some_iff.1 hx;obtain⟨b,off,cs,ha,-,hb,-,hcells,rfl,hz,h1,h2⟩:=hr i p hx2;have hm:=hp p (List.mem_of_getElem? hx2);exact⟨b,off,ha,hb,hz,hcells 0 _ rfl,⟨_,hcells 1 _ rfl,phis_of h1 hm.1⟩,⟨_,hcells 2 _ rfl,insts_of h2 hm.2⟩,hcells 3 _ rfl,hcells 4 _ rfl,hcells 5 _ rfl,hcells 6 _ rfl⟩
theorem fn_of{w:World}{base:Nat}{vv vp vb:Value}{F:PFunc}{ps:List (PBlock×Value×Value)}(hV:RRow w base 52 2 CVar vv F.vars)(hP:w.ownsRow base 3 1 vp F.params.length (F.params.map (Value.int .i64)))
 (hR:RRow w base 42 7 (CBO w base) vb ps) (he:ps.map Prod.fst=F.blocks) (hB:Bnd F):FnV w w.heap.size (.agg #[vv,vp,vb]) F:=by
 refine⟨vv,vp,vb,rfl,DVars.rd (D:=fun _=>True) (hV.done (by have:=hB.vars;omega) (fun _ _ _=>trivial)) (fun _ h _=>h),DInts.rd (D:=fun _=>True) (DInts.of_own hP (by have:=hB.params;omega) (fun _ _ _=>trivial)) (fun _ h _=>h),?_⟩;rw[← he];refine blks_of hR (by have:=hB.blocks;rw[← he,List.length_map]at this;omega) fun p hp=>?_
 have hm:p.1∈F.blocks:=by rw[← he];exact List.mem_map_of_mem hp
 have:=hB.parts _ hm;exact⟨ZO,ZO⟩
theorem RRow.cells{α:Type}{w:World}{base sz:Nat}{e:TypeId}{C:List Value→α→Prop}{v:Value}{xs:List α}(h:RRow w base e sz C v xs){i:Nat}(hi:i<xs.length) :
 ∃g cap cs,v=.slice (some ⟨g,0,none⟩) xs.length cap∧xs.length≤cap∧base≤g∧g<w.heap.size∧w.frozen? ⟨g,0,none⟩=false∧cs.length=sz∧(∀j u,cs[j]?=some u→w.cell? ⟨g,i*sz+j,none⟩=some u)∧C cs xs[i]:=by
 obtain⟨ch,hl,hc,hr⟩:=h;have hcs:∀c∈ch,c.length=sz:=fun cs hm=>by
  obtain⟨i,hi,rfl⟩:=List.getElem_of_mem hm;exact(hc i _ (xs[i]'(ZO)) (by simp[hi]) ZS).1
 have hch:ch[i]?=some (ch[i]'(ZO)):=by simp[hl,hi]
 have hcx:=hc i _ xs[i] hch (by simp[hi]);rcases hr.2 with⟨hv,h0⟩|⟨g,cap,cur,rfl,hb,hh,hnc,hcm,hsz,ht⟩
 · exact ZO
 · refine⟨g,cap,_,rfl,hnc,hb,(Array.getElem?_eq_some_iff.1 hh).1,World.ownsRow.frozenAt (hr) 0,hcx.1,fun j u hu=>?_,hcx.2⟩
   have hj:j<sz:=by rw[← hcx.1];exact(List.getElem?_eq_some_iff.1 hu).1
   rw[cell_of_row w g _ cur e (0,0) hh];have hf:=flat_at hcs hch hj;rw[hu,← ht,List.getElem?_take]at hf;split at hf
   · simpa using hf
   · cases hf
theorem flat_set3{a b c:Value}:∀{ch:List (List Value)} {k:Nat},(∀c∈ch,c.length=3)→k<ch.length→(ch.set k [a,b,c]).flatten=((ch.flatten.set (k*3) a).set (k*3+1) b).set (k*3+2) c
 |[],k,_,hk=>by simp at hk
 |c0::ch,k,hs,hk=>by
  have h0:=hs c0 ZS;obtain⟨x,y,z,rfl⟩:∃x y z,c0=[x,y,z]:=by
   match c0,h0 with
   |[x,y,z],_=>exact⟨x,y,z,rfl⟩
  cases k with
  |zero=>simp
  |succ k=>
   have ih:=flat_set3 (a:=a) (b:=b) (c:=c) (ch:=ch) (k:=k) (fun c h=>hs c (by simp[h])) (by simpa using hk);rw[List.set_cons_succ,List.flatten_cons,ih,List.flatten_cons,show(k+1)*3=k*3+1+1+1 from ZO];simp only[List.cons_append,List.nil_append,List.set_cons_succ,show k*3+1+1+1+1=k*3+1+1+1+1 from rfl,show k*3+1+1+1+2=k*3+2+1+1+1 from rfl]
theorem RRow.put3{α:Type}{w:World}{base g n cap:Nat}{e:TypeId}{C C':List Value→α→Prop}{xs:List α}{a b c:Value}{k:Nat}{x':α}(h:RRow w base e 3 C (.slice (some ⟨g,0,none⟩) n cap) xs)(hk:k<xs.length)
 (hC:∀cs x,C cs x→C' cs x) (hx:C' [a,b,c] x') :
 RRow (((w.setCell ⟨g,k*3,none⟩ a).setCell ⟨g,k*3+1,none⟩ b).setCell ⟨g,k*3+2,none⟩ c) base e 3 C' (.slice (some ⟨g,0,none⟩) n cap) (xs.set k x'):=by
 obtain⟨A,c1,hv⟩:=h.form;simp only[Value.slice.injEq]at hv;obtain⟨-,rfl,-⟩:=hv;obtain⟨ch,hl,hc,hr⟩:=h;have hcs:∀c∈ch,c.length=3:=fun cs hm=>by
  obtain⟨i,hi,rfl⟩:=List.getElem_of_mem hm;exact(hc i _ (xs[i]'(ZO)) (by simp[hi]) ZS).1
 refine⟨ch.set k [a,b,c],by simp[hl],fun i cs x h1 h2=>?_,?_⟩
 · by_cases hi:k=i
   · subst hi
     simp[hl,hk]at h1 h2;subst h1 h2;exact⟨rfl,hx⟩
   · rw[List.getElem?_set_ne hi]at h1 h2
     exact⟨(hc i cs x h1 h2).1,hC _ _ (hc i cs x h1 h2).2⟩
 · rw[flat_set3 hcs ZO,List.length_set]
   exact(((hr.stored (k*3) a).1.stored (k*3+1) b).1.stored (k*3+2) c).1
end Go.Proofs.YtlhhfcleioikoaaGreatDoor
