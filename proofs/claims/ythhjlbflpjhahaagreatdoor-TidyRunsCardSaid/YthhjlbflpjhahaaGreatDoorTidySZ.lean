/- The straight program runs as the program does, in no more steps. -/
import Derived.Test.YthhjlbflpjhahaaGreatDoorTdPZ
import Derived.Test.YthhjlbflpjhahaaGreatDoorSimQZ
namespace Go.Proofs.YthhjlbflpjhahaaGreatDoor
open Go.RowKit
set_option maxRecDepth 100000
inductive Pa (F:PFunc) (a:Nat):Nat→Prop
 |refl:Pa F a a
 |step {x b:Nat} (h:Pa F a x) (hf:fol F x b=true):Pa F a b
section
variable {F G:PFunc} {a b c h x y z i j k:Nat} {r v:Nat→Nat} {L:List PInst} {T:PTerm} {l:List Bool} {s t s0:RSt}
theorem Pa.first(p:Pa F a b):a=b∨∃c,fol F a c=true∧Pa F c b:=by
 induction p with
 |refl=>exact .inl rfl
 |@step x b _ hf ih=>
  rcases ih with rfl|⟨c,h1,h2⟩
  · exact .inr ⟨b,hf,.refl⟩
  · exact .inr ⟨c,h1,h2.step hf⟩
theorem Pa.both(p:Pa F h x)(q:Pa F h y):Pa F x y∨Pa F y x:=by
 induction p with
 |refl=>exact .inl q
 |@step x b _ hf ih=>
  rcases ih with h1|h1
  · rcases h1.first with rfl|⟨c,h2,h3⟩
    · exact .inr (.step .refl hf)
    · obtain rfl:=fol_next hf h2
      exact .inl h3
  · exact .inr (h1.step hf)
theorem pa_head(hr:RkP F r):∀m x,r x≤m→x<F.blocks.length→∃h,isHd F h=true∧h<F.blocks.length∧Pa F h x:=by
 intro m
 induction m with
 |zero=>
  intro x hx hlt;cases e:isHd F x
  · rw[Bool.eq_false_iff,Ne,hd_iff]at e
    refine absurd (fun a=>?_) e;cases e2:fol F a x
    · rfl
    · have:=hr _ _ e2;omega
  · exact⟨x,e,hlt,.refl⟩
 |succ m ih=>
  intro x hx hlt;cases e:isHd F x
  · have:¬∀a,fol F a x=false:=fun h=>by rw[hd_iff.2 h]at e;cases e
    obtain⟨a,ha⟩:=Classical.not_forall.1 this;have ha:fol F a x=true:=by simpa using ha
    have:=hr _ _ ha;obtain⟨h,h1,h2,h3⟩:=ih a ZO (fol_parts ha).1;exact⟨h,h1,h2,h3.step ha⟩
  · exact⟨x,e,hlt,.refl⟩
theorem Pa.num(hv:TidyV F v)(p:Pa F h x):v x=v h:=by
 induction p with
 |refl=>rfl
 |step _ hf ih=>rw[hv.fo _ _ hf,ih]
theorem hd_at(h1:isHd F h=true)(h2:h<F.blocks.length):∃k:Nat,(hds F)[k]?=some h:=List.getElem?_of_mem (List.mem_filter.2 ⟨List.mem_range.2 h2,h1⟩)
theorem last_one(hr:RkP F r)(hv:TidyV F v)(hx:x<F.blocks.length)(hy:y<F.blocks.length)(lx:∀b,fol F x b=false)(ly:∀b,fol F y b=false)(e:v x=v y):x=y:=by
 obtain⟨h,a1,a2,a3⟩:=pa_head hr (r x) x (Nr _) hx;obtain⟨g,b1,b2,b3⟩:=pa_head hr (r y) y (Nr _) hy;obtain⟨k,hk⟩:=hd_at a1 a2;obtain⟨m,hm⟩:=hd_at b1 b2;have h1:=hv.hd _ _ hk;have h2:=hv.hd _ _ hm;rw[a3.num hv,b3.num hv,h1,h2]at e;rw[e,hm,Option.some.injEq]at hk;subst hk;rcases a3.both b3 with p|p
 · rcases p.first with rfl|⟨c,h3,-⟩
   · rfl
   · rw[lx]at h3;cases h3
 · rcases p.first with rfl|⟨c,h3,-⟩
   · rfl
   · rw[ly]at h3;cases h3
theorem last_of(hy:isHd F y=true)(hl:leads (F.blk x).term (y:Int)=true)(b:Nat):fol F x b=false:=by
 cases e:fol F x b
 · rfl
 · obtain⟨-,-,h3,h4,-⟩:=fol_parts e
   unfold leads at hl;rw[decide_eq_true_iff]at hl;rcases hl with⟨-,h5⟩|⟨h5,-⟩
   · rw[h4]at h5
     obtain rfl:b=y:=Int.ofNat.inj h5;rw[hd_iff.1 hy]at e;cases e
   · rw[h3]at h5
     cases h5
theorem head_of(hx:x<F.blocks.length)(lx:∀b,fol F x b=false)(hl:leads (F.blk x).term (y:Int)=true):isHd F y=true:=by
 rw[hd_iff];intro z;cases e:fol F z y
 · rfl
 · have h1:=fol_into e hx
   rw[hl]at h1;have h2:x=z:=by simpa using h1.symm
   subst h2;rw[lx]at e;cases e
theorem atOf_map{f:Int→Int}{w:Int}:∀{fs ys:List Int},(∀x∈fs,f x=f w→x=w)→atOf (fs.map f) ys (f w)=atOf fs ys w
 |[],_,_=>by simp[atOf]
 |_::_,[],_=>by simp[atOf]
 |x::fs,a::ys,h=>by
  have ih:=atOf_map (f:=f) (w:=w) (fs:=fs) (ys:=ys) (fun y hy=>h y (List.mem_cons_of_mem _ hy));simp only[List.map_cons,atOf]
  by_cases e:x=w
  · rw[if_pos e,if_pos (by rw[e])]
  · rw[if_neg e,if_neg (fun e2=>e (h x (List.mem_cons_self ..) e2)),ih]
theorem move_mphi{o:RSt}{f:Int→Int}:∀(ps:List PPhi) (gs:List Int) (s:RSt),moveR o (ps.map (mphi f)) gs s=moveR o ps gs s
 |[],_,_=>rfl
 |_::_,[],_=>rfl
 |p::ps,g::gs,s=>by
  rw[List.map_cons,moveR,moveR];exact move_mphi ps gs _
structure SimV (F G:PFunc) (v r:Nat→Nat) (s t:RSt) (k j:Nat):Prop where
 alk:Alk (List.replicate F.vars.length true) s t
 pos:∃(pre L:List PInst) (T:PTerm),Ch F s.block L T∧t.block<G.blocks.length∧(G.blk t.block).insts=pre++L∧(G.blk t.block).term=mterm (vI v) T∧t.pc=pre.length+s.pc
 blk:t.block=v s.block
 ss:s.steps=k
 ts:t.steps=j
 le:j≤k
 bd:k≤j*(1+F.blocks.length)+r s.block
theorem rep_get{n:Nat}{v:Int}(h0:0≤v)(h1:v<n):(List.replicate n true).getD v.toNat false=true:=by
 have:v.toNat<n:=by omega
 simp[List.getD_eq_getElem?_getD,this]
theorem varsB_rep{n:Nat}{ys:List Int}(hn:n=F.vars.length)(h:varsB F ys=true):∀v∈ys,(List.replicate n true).getD v.toNat false=true:=fun v hv=>by
 have:=inB_true (List.all_eq_true.1 h v hv);exact rep_get this.1 ZO
theorem head_blk(hv:TidyV F v)(hG:∀(k i:Nat),(hds F)[k]?=some i→∃L T,Ch F i L T∧G.blocks[k]?=some (tidyBlk F v i L T))(h1:isHd F h=true)(h2:h<F.blocks.length):∃L T,Ch F h L T∧v h<G.blocks.length∧G.blk (v h)=tidyBlk F v h L T:=by
 obtain⟨k,hk⟩:=hd_at h1 h2;obtain⟨L,T,h3,h4⟩:=hG k h hk;rw[hv.hd k h hk];obtain⟨h5,h6⟩:=List.getElem?_eq_some_iff.1 h4;exact⟨L,T,h3,h5,by rw[PFunc.blk,List.getD_eq_getElem?_getD,h4];rfl⟩
theorem SimV.step(hT:typedP F=true)(hJ:joinedB F=true)(hg:InRg F)(hr:RkP F r)(hrn:∀x,r x≤F.blocks.length)(hv:TidyV F v)
 (hG:∀(k i:Nat),(hds F)[k]?=some i→∃L T,Ch F i L T∧G.blocks[k]?=some (tidyBlk F v i L T)) (hI:RInv F s) (h:SimV F G v r s t k j) (hk:k<4611686018427387904) :
 SimV F G v r (stepR F s) t (k+1) j∨SimV F G v r (stepR F s) (stepR G t) (k+1) (j+1):=by
 obtain⟨pre,L,T,hc,hbl,hin,htm,hpc⟩:=h.pos;have hbm:=mem_of_blk hI.blk;have hS:=shaped_blk (typed_shaped' hT) hI.blk;have wk:wrap64 (s.steps+1)=((k+1:Nat):Int):=by rw[h.ss];exact wrap_nat hk
 have wj:wrap64 (t.steps+1)=((j+1:Nat):Int):=by rw[h.ts];exact wrap_nat (by have:=h.le;omega)
 have hle:=h.le;have hbd:=h.bd;have hLl:(F.blk s.block).insts.length≤L.length∧∀q,q<(F.blk s.block).insts.length→L[q]?=some ((F.blk s.block).inst q):=by
  cases hc with
  |last _=>exact⟨Nr _,fun q hq=>PBlock.inst_get hq⟩
  |more _ _=>exact⟨ZS,fun q hq=>by rw[List.getElem?_append_left hq];exact PBlock.inst_get hq⟩
 by_cases h1:s.pc<(F.blk s.block).insts.length
 · right
   have hm:=inst_mem h1;have hx:=hS.2.1 _ hm;have hop:isOp ((F.blk s.block).inst s.pc).op=true:=by
    have:=hx;unfold instB at this;simp only[Bool.and_eq_true]at this;exact this.1.1.1.1
   obtain⟨n,hn,hn2⟩:=inB_nat hop;have e1:=stepR_inst h1;rw[wk,instR]at e1;have h2:t.pc<(G.blk t.block).insts.length:=by rw[hin,hpc,List.length_append];omega
   have hix:(G.blk t.block).inst t.pc=(F.blk s.block).inst s.pc:=by
    rw[PBlock.inst,hin,hpc,List.getD_eq_getElem?_getD,List.getElem?_append_right ZO,show pre.length+s.pc-pre.length=s.pc from ZO,hLl.2 _ h1];rfl
   have e2:=stepR_inst h2;rw[wj,hix,instR]at e2;generalize (F.blk s.block).inst s.pc=x at *;have ho:x.op.toNat=n:=by rw[hn,Int.toNat_natCast]
   rw[ho]at e1 e2;obtain⟨q1,q2,q3⟩:=instN_pos n { s with steps:=((k+1:Nat):Int),pc:=s.pc+1 } x;obtain⟨r1,r2,r3⟩:=instN_pos n { t with steps:=((j+1:Nat):Int),pc:=t.pc+1 } x;rw[e1,e2];refine⟨Alk.inst (h.alk.at s.block (s.pc+1) t.block (t.pc+1) ((k+1:Nat):Int) ((j+1:Nat):Int)) hn2 hn hx rfl rfl (fun _ _=>rfl) (fun _=>varsB_rep rfl (instB_parts hx).1),⟨pre,L,T,?_,?_,?_,?_,?_⟩,r1.trans (h.blk.trans (by rw[q1])),q3,r3,ZO,?_⟩
   · rw[q1];exact hc
   · rw[r1];exact hbl
   · rw[r1];exact hin
   · rw[r1];exact htm
   · rw[r2,q2]
     show t.pc+1=pre.length+(s.pc+1);omega
   · rw[q1,Nat.add_mul]
     show k+1≤_+r s.block;omega
 · have hpc2:s.pc=(F.blk s.block).insts.length:=by have:=hI.pc;omega
   cases hc with
   |@more _ b L2 _ hf hc2=>
    left;obtain⟨-,hb,hk0,ht0,-,-,hph⟩:=fol_parts hf;have e1:stepR F s=({ s with steps:=((k+1:Nat):Int) }:RSt).goTo b:=by
     unfold stepR;dsimp only;rw[if_neg h1,if_neg (by rw[hk0];decide),if_pos (.inl hk0),ht0,Int.toNat_natCast,wk];unfold enterR;rw[hph];rfl
    rw[e1];have hrk:=hr _ _ hf;refine⟨h.alk.at b 0 t.block t.pc ((k+1:Nat):Int) t.steps,⟨pre++(F.blk s.block).insts,L2,T,hc2,hbl,by rw[hin,List.append_assoc],htm,?_⟩,?_,rfl,h.ts,ZO,?_⟩
    · show t.pc=(pre++(F.blk s.block).insts).length+0
      rw[hpc,hpc2,List.length_append];omega
    · show t.block=v b
      rw[h.blk,hv.fo _ _ hf]
    · show k+1≤_+r b
      omega
   |last hno=>
    right;have h2:¬t.pc<(G.blk t.block).insts.length:=by rw[hin,hpc,hpc2,List.length_append];omega
    have hkd:=mterm_kind (vI v) (F.blk s.block).term;have hb2:k+1≤(j+1)*(1+F.blocks.length):=by
     have:=hrn s.block;rw[Nat.add_mul];omega
    have hvar:(F.blk s.block).term.kind≠0→inB (F.blk s.block).term.var F.vars.length=true:=fun e=>by
     have h3:=hS.2.2;unfold termB at h3;rw[if_neg e]at h3;split at h3
     · simp only[Bool.and_eq_true]at h3
       exact h3.1.1
     · split at h3
       · simp only[Bool.and_eq_true]at h3
         exact h3.1
       · cases h3
    have hneed:(F.blk s.block).term.kind≠0→(List.replicate F.vars.length true).getD (F.blk s.block).term.var.toNat false=true:=fun e=>by
     have:=inB_true (hvar e);exact rep_get this.1 this.2
    rcases step_pos hT hI with⟨h3,-⟩|⟨c,hcE,hn,h3⟩
    · have hk2:=h3.resolve_left h1
      have hval:=h.alk.int (hneed (by rw[hk2];decide));have e1:stepR F s=({ s with steps:=((k+1:Nat):Int),value:=s.int (F.blk s.block).term.var }:RSt).endW 0:=by
       unfold stepR;dsimp only;rw[if_neg h1,if_pos hk2,wk];rfl
      have e2:stepR G t=({ t with steps:=((j+1:Nat):Int),value:=t.int (F.blk s.block).term.var }:RSt).endW 0:=by
       unfold stepR;dsimp only;rw[if_neg h2,htm,hkd.1,hkd.2,if_pos hk2,wj];rfl
      rw[e1,e2];have a:=h.alk;exact⟨⟨a.li,a.lb,a.la,a.ints,a.boos,a.arrs,a.rows,rfl,hval,a.trap,a.trace,a.checks,rfl⟩,⟨pre,_,_,.last hno,hbl,hin,htm,hpc⟩,h.blk,rfl,rfl,ZO,Nat.le_trans hb2 (Nat.le_add_right _ _)⟩
    · have hlt:=EN_lt hT hI.blk c hcE
      have hld:=(EN_leads hT hI.blk).1 hcE;have hhd:=head_of hI.blk hno hld;obtain⟨L3,T3,hc3,hb3,hG3⟩:=head_blk hv hG hhd hlt;have hkn:(F.blk s.block).term.kind≠2:=fun e=>by
       unfold nextR at hn;rw[if_pos (.inr e)]at hn;omega
      have hbo:(F.blk s.block).term.kind≠0→t.boo (F.blk s.block).term.var=s.boo (F.blk s.block).term.var:=fun e=>(h.alk.boo (hneed e)).symm
      have hcond:((F.blk s.block).term.kind=0∨t.boo (F.blk s.block).term.var=true)↔((F.blk s.block).term.kind=0∨s.boo (F.blk s.block).term.var=true):=by
       by_cases e:(F.blk s.block).term.kind=0
       · simp[e]
       · rw[hbo e]
      have hk01:(F.blk s.block).term.kind=0∨(F.blk s.block).term.kind=1:=by
       have h4:=hS.2.2;unfold termB at h4
       by_cases e:(F.blk s.block).term.kind=0
       · exact .inl e
       · rw[if_neg e]at h4
         by_cases e1:(F.blk s.block).term.kind=1
         · exact .inr e1
         · rw[if_neg e1,if_neg hkn]at h4
           cases h4
      have e2:stepR G t=enterR G (v c) { t with steps:=((j+1:Nat):Int) }:=by
       unfold nextR at hn;rw[if_neg (fun e=>e.elim h1 hkn)]at hn;replace hn:(if(F.blk s.block).term.kind=0∨s.boo (F.blk s.block).term.var=true then(F.blk s.block).term.t0 else(F.blk s.block).term.t1)=(c:Int):=hn;unfold stepR;dsimp only;rw[if_neg h2,htm,hkd.1,hkd.2,if_neg hkn,wj];show(if(F.blk s.block).term.kind=0∨t.boo (F.blk s.block).term.var=true then enterR G (mterm (vI v) (F.blk s.block).term).t0.toNat { t with steps:=((j+1:Nat):Int) } else enterR G (mterm (vI v) (F.blk s.block).term).t1.toNat { t with steps:=((j+1:Nat):Int) })=_
       by_cases hq:(F.blk s.block).term.kind=0∨s.boo (F.blk s.block).term.var=true
       · rw[if_pos hq]at hn
         have:(mterm (vI v) (F.blk s.block).term).t0=((v c:Nat):Int):=by
          unfold mterm;rcases hk01 with e|e
          · rw[if_pos e]
            simp only[hn,vI,Int.toNat_natCast]
          · rw[if_neg (by rw[e];decide),if_pos e]
            simp only[hn,vI,Int.toNat_natCast]
         rw[if_pos (hcond.2 hq),this,Int.toNat_natCast]
       · rw[if_neg hq]at hn
         have e:(F.blk s.block).term.kind=1:=hk01.resolve_left fun e=>hq (.inl e)
         have:(mterm (vI v) (F.blk s.block).term).t1=((v c:Nat):Int):=by
          unfold mterm;rw[if_neg (by rw[e];decide),if_pos e];simp only[hn,vI,Int.toNat_natCast]
         rw[if_neg (fun e=>hq (hcond.1 e)),this,Int.toNat_natCast]
      have hphi:∀p∈(F.blk c).phis,atOf p.froms p.args s.block∈p.args:=fun p hp=>by
       refine atOf_in (joined_from hT hJ hlt hI.blk hld hp) ?_;have:=(shaped_blk (typed_shaped' hT) hlt).1 p hp;unfold phiB at this;simp only[Bool.and_eq_true,decide_eq_true_eq]at this;exact this.1.1.1.2.symm
      have hpv:∀p∈(F.blk c).phis,∀u∈p.args,inB u F.vars.length=true:=fun p hp u hu=>by
       have:=(shaped_blk (typed_shaped' hT) hlt).1 p hp;unfold phiB at this;simp only[Bool.and_eq_true]at this;exact List.all_eq_true.1 this.1.2 u hu
      have hat:∀p∈(F.blk c).phis,atOf (mphi (vI v) p).froms (mphi (vI v) p).args (t.block:Int)=atOf p.froms p.args s.block:=fun p hp=>by
       show atOf (p.froms.map (vI v)) p.args (t.block:Int)=_;have hw:(t.block:Int)=vI v (s.block:Int):=by rw[h.blk];simp[vI]
       rw[hw];refine atOf_map fun x hx e=>?_
       obtain⟨m,rfl,hm⟩:=hg.fr c hlt p hp x hx;have hlm:leads (F.blk m).term (c:Int)=true:=by
        have h5:=List.all_eq_true.1 (List.all_eq_true.1 hJ c (List.mem_range.2 hlt)) p hp;unfold joinPhi at h5;rw[decide_eq_true_iff,show(predsOf F).getD c []=ints (predRow F c F.blocks.length)from predsF_row hT hlt _ (Nr _)]at h5;have h6:=(sort_row ((ints_pair (predRow_pair (F:=F) (b:=c) F.blocks.length)).imp fun h=>ZO)).1 h5;obtain⟨m',h7,h8⟩:=List.mem_map.1 (h6.mem_iff.1 hx);obtain rfl:m'=m:=Int.ofNat.inj h8;exact(predRow_mem.1 h7).2
       unfold vI at e;rw[Int.toNat_natCast,Int.toNat_natCast]at e;rw[last_one hr hv hm hI.blk (last_of hhd hlm) hno (Int.ofNat.inj e)]
      have hgot:gotR ((F.blk c).phis.map (mphi (vI v))) (t.block:Int)=gotR (F.blk c).phis (s.block:Int):=by
       unfold gotR;rw[List.map_map];exact List.map_congr_left hat
      have hno2:(gotR (F.blk c).phis (s.block:Int)).any (fun g=>decide (g<0))=false:=by
       rw[List.any_eq_false];intro g hg2;obtain⟨p,hp,rfl⟩:=List.mem_map.1 hg2;have:=(inB_true (hpv p hp _ (hphi p hp))).1;simpa using this
      rw[wk]at h3;have e3:enterR F c { s with steps:=((k+1:Nat):Int) }=(moveR { s with steps:=((k+1:Nat):Int) } (F.blk c).phis (gotR (F.blk c).phis s.block) { s with steps:=((k+1:Nat):Int) }).goTo c:=by
       unfold enterR;rw[if_neg (by show ¬(gotR (F.blk c).phis (s.block:Int)).any _=true;rw[hno2];decide)]
      have e4:enterR G (v c) { t with steps:=((j+1:Nat):Int) }=(moveR { t with steps:=((j+1:Nat):Int) } (F.blk c).phis (gotR (F.blk c).phis s.block) { t with steps:=((j+1:Nat):Int) }).goTo (v c):=by
       unfold enterR;rw[hG3];show(if(gotR ((F.blk c).phis.map (mphi (vI v))) (t.block:Int)).any _=true then _ else(moveR _ ((F.blk c).phis.map (mphi (vI v))) (gotR ((F.blk c).phis.map (mphi (vI v))) (t.block:Int)) _).goTo _)=_;rw[hgot,if_neg (by rw[hno2];decide),move_mphi]
      have hmv:=(h.alk.at s.block s.pc t.block t.pc ((k+1:Nat):Int) ((j+1:Nat):Int)).move (b:=(s.block:Int)) (k:=fun _=>true) (ps:=(F.blk c).phis) (fun _ _ e=>by cases e) (fun p hp _=>by
       have:=inB_true (hpv p hp _ (hphi p hp))
       exact rep_get this.1 this.2) (h.alk.at s.block s.pc t.block t.pc ((k+1:Nat):Int) ((j+1:Nat):Int))
      rw[List.filter_eq_self.2 (fun _ _=>rfl)]at hmv;obtain⟨k1,-,-⟩:=move_keep (o:={ s with steps:=((k+1:Nat):Int) }) (F.blk c).phis (gotR (F.blk c).phis s.block) { s with steps:=((k+1:Nat):Int) };obtain⟨k2,-,-⟩:=move_keep (o:={ t with steps:=((j+1:Nat):Int) }) (F.blk c).phis (gotR (F.blk c).phis s.block) { t with steps:=((j+1:Nat):Int) };rw[h3,e2,e3,e4];refine⟨hmv.at c 0 (v c) 0 _ _,⟨[],L3,T3,hc3,hb3,by show(G.blk (v c)).insts=_;rw[hG3];rfl,by show(G.blk (v c)).term=_;rw[hG3];rfl,rfl⟩,rfl,k1,k2,ZO,Nat.le_trans hb2 (Nat.le_add_right _ _)⟩
theorem simV_run(hT:typedP F=true)(hJ:joinedB F=true)(hN:NumsR F)(hg:InRg F)(hr:RkP F r)(hrn:∀x,r x≤F.blocks.length)(hv:TidyV F v)
 (hG:∀(k i:Nat),(hds F)[k]?=some i→∃L T,Ch F i L T∧G.blocks[k]?=some (tidyBlk F v i L T)) (hI:RInv F s0) (h0:SimV F G v r s0 s0 0 0):∀K:Nat,K<4611686018427387904→
 ∃k j,k≤K∧SimV F G v r (runR F K s0) (runR G j s0) k j∧RInv F (runR F K s0)∧((runR F K s0).ended=false→k=K)
 |0,_=>⟨0,0,Nr _,h0,hI,fun _=>rfl⟩
 |K+1,hK=>by
  obtain⟨k,j,h1,h2,h3,h4⟩:=simV_run hT hJ hN hg hr hrn hv hG hI h0 K ZO;cases he:(runR F K s0).ended
  · rw[run_snoc he]
    have hkK:=h4 he;have hte:(runR G j s0).ended=false:=by rw[← h2.alk.ended];exact he
    rcases h2.step hT hJ hg hr hrn hv hG h3 ZO with h|h
    · exact⟨k+1,j,ZO,h,h3.step hT hN,fun _=>ZO⟩
    · rw[← run_snoc hte]at h
      exact⟨k+1,j+1,ZO,h,h3.step hT hN,fun _=>ZO⟩
  · rw[run_stop he (Nat.le_succ K)]
    exact⟨k,j,ZO,h2,h3,fun e=>by rw[he]at e;cases e⟩
section
variable (hT:typedP F=true) (hJ:joinedB F=true) (hN:NumsR F) (hg:InRg F) (hr:RkP F r) (hrn:∀x,r x≤F.blocks.length) (hv:TidyV F v)
 (hG:∀(k i:Nat),(hds F)[k]?=some i→∃L T,Ch F i L T∧G.blocks[k]?=some (tidyBlk F v i L T)) (hI:RInv F s0) (h0:SimV F G v r s0 s0 0 0) (ho:OpenR s0)
include hT hJ hN hg hr hrn hv hG hI h0 ho
theorem simV_fwd{K M:Nat}(hK:K<4611686018427387904)(hM:K≤M)(he:(runR F K s0).ending≠3):SameO (runR F K s0) (runR G M s0)∧(runR G M s0).steps≤(runR F K s0).steps:=by
 obtain⟨k,j,h1,h2,-,-⟩:=simV_run hT hJ hN hg hr hrn hv hG hI h0 K hK;have hend:(runR F K s0).ended=true:=by
  cases e:(runR F K s0).ended
  · exact absurd (run_open F K s0 ho e) he
  · rfl
 have hte:=h2.alk.ended;rw[hend]at hte;have hle:=h2.le;rw[run_stop hte.symm (show j≤M from ZO),h2.ss,h2.ts];exact⟨h2.alk.out,ZO⟩
theorem simV_bwd{n M:Nat}(hM:M=(1+F.blocks.length)*(n+1))(hB:M<4611686018427387904)(he:(runR G n s0).ending≠3):SameO (runR F M s0) (runR G n s0):=by
 obtain⟨k,j,h1,h2,hI2,h4⟩:=simV_run hT hJ hN hg hr hrn hv hG hI h0 M hB;have hend:(runR G n s0).ended=true:=by
  cases e:(runR G n s0).ended
  · exact absurd (run_open _ n s0 ho e) he
  · rfl
 have hte:=h2.alk.ended;have hbd:=h2.bd;have hpc:=hrn (runR F M s0).block;cases e:(runR F M s0).ended
 · have hk:=h4 e
   rw[e]at hte;have hj:n<j:=by
    refine Nat.lt_of_not_le fun hj=>?_
    have:=Nat.mul_le_mul_right (1+F.blocks.length) hj;have hM2:M=n*(1+F.blocks.length)+(1+F.blocks.length):=by rw[hM,Nat.mul_succ,Nat.mul_comm]
    omega
   have:=run_stop hend (Nat.le_of_lt hj);rw[this,hend]at hte;cases hte
 · rw[e]at hte
   have hs:runR G j s0=runR G n s0:=by
    rcases Nat.le_total j n with hj|hj
    · exact(run_stop hte.symm hj).symm
    · exact run_stop hend hj
   rw[← hs];exact h2.alk.out
end
end
end Go.Proofs.YthhjlbflpjhahaaGreatDoor
