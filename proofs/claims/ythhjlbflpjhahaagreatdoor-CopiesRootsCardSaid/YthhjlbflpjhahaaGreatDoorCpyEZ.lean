/- The plain law of copies: whenever a variable stands behind its making a run has in it what its root has; so a run with roots for variables is the very run. -/
import Derived.Test.YthhjlbflpjhahaaGreatDoorCpQZ
import Derived.Test.YthhjlbflpjhahaaGreatDoorSimQZ
namespace Go.Proofs.YthhjlbflpjhahaaGreatDoor
open Go.RowKit
set_option maxRecDepth 100000
def Sv(s:RSt)(u:Int)(t:RSt)(w:Int):Prop:=s.int u=t.int w∧s.boo u=t.boo w∧s.arr u=t.arr w
section
variable {s t r:RSt} {u v w d:Int}
theorem Sv.refl:Sv s u s u:=⟨rfl,rfl,rfl⟩
theorem Sv.symm(h:Sv s u t w):Sv t w s u:=⟨h.1.symm,h.2.1.symm,h.2.2.symm⟩
theorem Sv.trans(h:Sv s u t w)(h':Sv t w r v):Sv s u r v:=⟨h.1.trans h'.1,h.2.1.trans h'.2.1,h.2.2.trans h'.2.2⟩
theorem Sv.setI(h:Sv s v t w){a:Int}(hd:d.toNat≠v.toNat):Sv (s.setI d a) v t w:=
 ⟨(Ydt (ys:=s.ints) rfl hd).trans h.1,h.2⟩
theorem Sv.setB(h:Sv s v t w){a:Bool}(hd:d.toNat≠v.toNat):Sv (s.setB d a) v t w:=
 ⟨h.1,(Ydt (ys:=s.bools) rfl hd).trans h.2.1,h.2.2⟩
theorem Sv.setA(h:Sv s v t w){a:Int}(hd:d.toNat≠v.toNat):Sv (s.setA d a) v t w:=
 ⟨h.1,h.2.1,(Ydt (ys:=s.arrs) rfl hd).trans h.2.2⟩
theorem Sv.set3{a c:Int}{b:Bool}(h1:d.toNat<s.ints.length)(h2:d.toNat<s.bools.length)(h3:d.toNat<s.arrs.length)(e:d.toNat=v.toNat):(((s.setI d a).setB d b).setA d c).int v=a∧(((s.setI d a).setB d b).setA d c).boo v=b∧(((s.setI d a).setB d b).setA d c).arr v=c:=by
 unfold RSt.int RSt.boo RSt.arr RSt.setI RSt.setB RSt.setA;rw[← e];refine⟨?_,?_,?_⟩<;>simp[ith,List.getD_eq_getElem?_getD,h1,h2,h3]
theorem Yny{k:Nat}{ok:Bool}:Sv (Ybe k ok s) v s v:=by
 unfold Ybe;split<;>exact⟨rfl,rfl,rfl⟩
theorem Ynz{F:PFunc}{x:PInst}{n:Nat}(hop:x.op=n)(hx:Yj F x=true)(hv:0≤v)(hne:v≠x.dst):Sv (instN n s x) v s v:=by
 have hd:Yag (n:Int)=true→x.dst.toNat≠v.toNat:=fun h=>by
  obtain⟨-,-,h3⟩:=YaR hx;rw[hop]at h3;have:=(Y2 (h3 h)).1;omega
 unfold instN;dsimp only;split<;>(try split)<;>(try split)<;>first
  |exact⟨rfl,rfl,rfl⟩
  |exact Sv.setI .refl (hd ZD)
  |exact Sv.setB .refl (hd ZD)
  |exact Sv.setA ⟨rfl,rfl,rfl⟩ (hd ZD)
  |exact((Sv.refl.setI (hd ZD)).setB (hd ZD)).setA (hd ZD)
  |exact Yny
theorem Ygr{o:RSt}:∀(ps:List PPhi) (gs:List Int) (s:RSt),(∀p∈ps,p.dst.toNat≠v.toNat)→Sv (YQ o ps gs s) v s v
 |[],_,_,_=>.refl
 |_::_,[],_,_=>.refl
 |p::ps,g::gs,s,h=>by
  rw[YQ];have h1:=h p ZS;exact(Ygr ps gs _ fun q hq=>h q (by simp[hq])).trans (((Sv.refl.setI h1).setB h1).setA h1)
theorem Yiw{o:RSt}{b g:Int}:∀(ps:List PPhi) (s:RSt),v.toNat<s.ints.length→v.toNat<s.bools.length→v.toNat<s.arrs.length→(∀q∈ps,q.dst.toNat=v.toNat→Yt q.froms q.args b=g)→(∃q∈ps,q.dst.toNat=v.toNat)→Sv (YQ o ps (Yu ps b) s) v o g
 |[],_,_,_,_,_,h=>by
  obtain⟨q,hq,-⟩:=h;cases hq
 |p::ps,s,l1,l2,l3,h,hex=>by
  show Sv (YQ o ps (Yu ps b) (((s.setI p.dst (o.int (Yt p.froms p.args b))).setB p.dst (o.boo (Yt p.froms p.args b))).setA p.dst (o.arr (Yt p.froms p.args b)))) v o g
  by_cases hx:∃q∈ps,q.dst.toNat=v.toNat
  · exact Yiw ps _ (by simpa[RSt.setI,RSt.setB,RSt.setA]using l1) (by simpa[RSt.setI,RSt.setB,RSt.setA]using l2) (by simpa[RSt.setI,RSt.setB,RSt.setA]using l3) (fun q hq=>h q (by simp[hq])) hx
  · have e:p.dst.toNat=v.toNat:=by
     obtain⟨q,hq,e⟩:=hex;rcases List.mem_cons.1 hq with rfl|hq
     · exact e
     · exact absurd ⟨q,hq,e⟩ hx
    refine(Ygr ps _ _ fun q hq e2=>hx ⟨q,hq,e2⟩).trans ?_;have:=Sv.set3 (s:=s) (d:=p.dst) (a:=o.int (Yt p.froms p.args b)) (b:=o.boo (Yt p.froms p.args b)) (c:=o.arr (Yt p.froms p.args b)) ZO ZO ZO e;rw[h p ZS e]at this ⊢;exact this
theorem Ygs{b:Int}:∀{fs l:List Int},b∈fs→fs.length=l.length→∃n,n<l.length∧ith fs n=b∧Yt fs l b=ith l n
 |f::fs,a::l,h,hl=>by
  unfold Yt;split
  · rename_i e
    exact⟨0,ZS,by simpa[ith]using e,by simp[ith]⟩
  · rename_i e
    obtain⟨n,h1,h2,h3⟩:=Ygs ((List.mem_cons.1 h).resolve_left fun x=>e x.symm) (show fs.length=l.length by simpa using hl);exact⟨n+1,by simpa using h1,by simpa[ith]using h2,by simpa[ith]using h3⟩
 |f::fs,[],_,hl=>by simp at hl
end
def RtI(F:PFunc)(m:Int→Int)(s:RSt):Prop:=∀u,inV F u→YJ F (tabB F) u s.block (s.pc:Int)=true→Sv s u s (m u)
section
variable {F:PFunc} {rk:Int→Nat} {m:Int→Int} {s:RSt} {u:Int}
theorem YnA{b:Nat}{p:Int}(h:YL F u b p):-1≤p∧p<((F.blk b).insts.length:Int):=by
 rcases h.2 with⟨rfl,-⟩|⟨k,h2,rfl,-⟩<;>omega
theorem RtI.start(S:Sgl F)(hC:CpI F rk m)(h0:s.block=0)(hp:s.pc=0):RtI F m s:=fun u hu ha=>by
 by_cases hm:m u=u
 · rw[hm];exact .refl
 · obtain⟨i,p,hk⟩:=YeX hC hm
   rw[h0,hp]at ha;rcases(S.ahead_iff hu hk).1 ha with⟨rfl,h⟩|⟨h,h2⟩
   · rcases hk.2 with⟨rfl,f,hf,-⟩|⟨k,-,rfl,-⟩
     · exact(S.no_phi hk.1 hf).elim
     · exact ZO
   · exact absurd (Ygh h2) h
theorem Yix(hG:RgC F){c:Nat}(hc:c<F.blocks.length){f:PPhi}(hf:f∈(F.blk c).phis)(hu:inV F u)(e:f.dst.toNat=u.toNat):f.dst=u:=by
 have h1:=((hG.ph _ (YK hc) f hf).1).1;have h2:=hu.1;omega
theorem RtI.step(S:Sgl F)(hC:CpI F rk m)(H:CpH F rk)(hI:RInv F s)(h:RtI F m s):RtI F m (Yx F s):=by
 have hsh:=YcH S.T
 by_cases h1:s.pc<(F.blk s.block).insts.length
 · have hm:=Ye0 h1
   have hx:=(Yaw hsh hI.blk).2.1 _ hm;have hop:YaA ((F.blk s.block).inst s.pc).op=true:=by
    have:=hx;unfold Yj at this;simp only[Bool.and_eq_true]at this;exact this.1.1.1.1
   obtain⟨n,hn,hn2⟩:=Yae hop;have e1:=YcI h1;have ho:((F.blk s.block).inst s.pc).op.toNat=n:=by rw[hn,Int.toNat_natCast]
   rw[Yca,ho]at e1;rw[e1];obtain⟨q1,q2,-⟩:=YeZ n { s with steps:=wrap64 (s.steps+1),pc:=s.pc+1 } ((F.blk s.block).inst s.pc);intro u hu ha;rw[q1,q2]at ha;have ha:YJ F (tabB F) u s.block ((s.pc+1:Nat):Int)=true:=ha
   by_cases hmu:m u=u
   · rw[hmu];exact .refl
   obtain⟨i,p,hk⟩:=YeX hC hmu;have hz:=hC.rg u hu;have oth:∀v,inV F v→v≠((F.blk s.block).inst s.pc).dst→Sv (instN n { s with steps:=wrap64 (s.steps+1),pc:=s.pc+1 } ((F.blk s.block).inst s.pc)) v s v:=fun v hv hne=>
    (Ynz (s:={ s with steps:=wrap64 (s.steps+1),pc:=s.pc+1 }) hn hx hv.1 hne).trans ⟨rfl,rfl,rfl⟩
   have hah:=(S.ahead_iff hu hk).1 ha
   by_cases e:i=s.block∧p=(s.pc:Int)
   · obtain⟨rfl,rfl⟩:=e
     rcases Sgl.maker hC H hu hmu hk with⟨h2,-⟩|⟨k,h2,-,hcp,hd,hav,hma,hmem⟩
     · exact ZO
     · obtain rfl:s.pc=k:=by omega
       have h3:=h _ hav (S.inst_ahead hI.blk h1 hmem);have h4:=oth (m u) hz (by rw[hd];exact hmu);have hn1:n=1:=by
        have:((F.blk s.block).inst s.pc).op=1:=of_decide_eq_true hcp;omega
       subst hn1;have l1:=hI.li;have l2:=hI.lb;have l3:=hI.la;have u0:=hu.1;have u1:=hu.2;have h5:=Sv.set3 (s:={ s with steps:=wrap64 (s.steps+1),pc:=s.pc+1 }) (v:=u) (d:=((F.blk s.block).inst s.pc).dst) (a:=s.int (ith ((F.blk s.block).inst s.pc).args 0)) (b:=s.boo (ith ((F.blk s.block).inst s.pc).args 0)) (c:=s.arr (ith ((F.blk s.block).inst s.pc).args 0)) (by rw[hd];show u.toNat<s.ints.length;omega) (by rw[hd];show u.toNat<s.bools.length;omega) (by rw[hd];show u.toNat<s.arrs.length;omega) (by rw[hd]);rw[hma]at h3;exact(show Sv _ u s _ from h5).trans (h3.trans h4.symm)
   · have hxu:u≠((F.blk s.block).inst s.pc).dst:=fun e2=>e (S.uniq hu hk ⟨hI.blk,.inr ⟨s.pc,h1,rfl,e2.symm⟩⟩)
     have hxz:m u≠((F.blk s.block).inst s.pc).dst:=fun e2=>by
      have hkz:YL F (m u) s.block s.pc:=⟨hI.blk,.inr ⟨s.pc,h1,rfl,e2.symm⟩⟩;rcases Yik S hC H hu hmu hk hkz with⟨h2,h3⟩|⟨h2,h3⟩
      · rcases hah with⟨-,h4⟩|⟨h4,-⟩
        · exact ZO
        · exact h4 h2.symm
      · rcases hah with⟨h4,-⟩|⟨-,h4⟩
        · exact h2 h4.symm
        · exact h2 (S.anti hI.blk hk.1 h3 h4)
     have hau:YJ F (tabB F) u s.block (s.pc:Int)=true:=by
      rw[S.ahead_iff hu hk];rcases hah with⟨h4,h5⟩|h4
      · exact .inl ⟨h4,by
         have:p≠(s.pc:Int):=fun e2=>e ⟨h4,e2⟩
         omega⟩
      · exact .inr h4
     exact(oth u hu hxu).trans ((h u hu hau).trans (oth _ hz hxz).symm)
 · rcases Yds S.T hI with⟨h2,-⟩|⟨c,hc,-,h3⟩
   · have hk:=h2.resolve_left h1
     have e1:Yx F s=({ s with steps:=wrap64 (s.steps+1),value:=s.int (F.blk s.block).term.var }:RSt).endW 0:=by
      unfold Yx;dsimp only;rw[if_neg h1,if_pos hk];rfl
     rw[e1];exact fun u hu ha=>h u hu ha
   · have hpc:s.pc=(F.blk s.block).insts.length:=by have:=hI.pc;omega
     have hcl:=YbC S.T hI.blk c hc;have hld:=(Ybx S.T hI.blk).1 hc;have hpr:s.block∈PR F c:=(YbT S.T).2 ⟨hI.blk,hc⟩;have hat:∀f∈(F.blk c).phis,∃n,n<f.args.length∧ith f.froms n=(s.block:Int)∧Yt f.froms f.args s.block=ith f.args n:=fun f hf=>
      Ygs (Ygm S.T S.J hcl hI.blk hld hf) (Yeb S.T hcl hf).2.1.symm
     have hno:(Yu (F.blk c).phis s.block).any (fun g=>decide (g<0))=false:=by
      rw[List.any_eq_false];intro g hg;obtain⟨f,hf,rfl⟩:=List.mem_map.1 hg;obtain⟨n,hn,-,e⟩:=hat f hf;have:=((H.g.ph _ (YK hcl) f hf).2 _ (Ycb hn)).1;rw[e];simpa using this
     have e1:Yx F s=(YQ { s with steps:=wrap64 (s.steps+1) } (F.blk c).phis (Yu (F.blk c).phis s.block) { s with steps:=wrap64 (s.steps+1) }).goTo c:=by
      rw[h3];unfold YM
      rw[if_neg (by
       show ¬(Yu (F.blk c).phis s.block).any (fun g=>decide (g<0))=true;rw[hno]
       decide)]
     rw[e1];intro u hu ha;have ha:YJ F (tabB F) u c ((0:Nat):Int)=true:=ha;show Sv (YQ { s with steps:=wrap64 (s.steps+1) } (F.blk c).phis (Yu (F.blk c).phis s.block) { s with steps:=wrap64 (s.steps+1) }) u (YQ { s with steps:=wrap64 (s.steps+1) } (F.blk c).phis (Yu (F.blk c).phis s.block) { s with steps:=wrap64 (s.steps+1) }) (m u)
     by_cases hmu:m u=u
     · rw[hmu];exact .refl
     obtain⟨i,p,hk⟩:=YeX hC hmu;have hz:=hC.rg u hu;have hah:=(S.ahead_iff hu hk).1 ha;have hlow:=YnA hk;have oth:∀v,inV F v→¬YL F v c (-1)→Sv (YQ { s with steps:=wrap64 (s.steps+1) } (F.blk c).phis (Yu (F.blk c).phis s.block) { s with steps:=wrap64 (s.steps+1) }) v s v:=fun v hv hne=>
      (Ygr (o:={ s with steps:=wrap64 (s.steps+1) }) (F.blk c).phis (Yu (F.blk c).phis s.block) { s with steps:=wrap64 (s.steps+1) } fun f hf e=>hne ⟨hcl,.inl ⟨rfl,f,hf,Yix H.g hcl hf hv e⟩⟩).trans ⟨rfl,rfl,rfl⟩
     have hzo:=oth (m u) hz fun hkz=>by
      rcases Yik S hC H hu hmu hk hkz with⟨h4,h5⟩|⟨h4,h5⟩
      · rcases hah with⟨-,h6⟩|⟨h6,-⟩
        · exact ZO
        · exact h6 h4.symm
      · rcases hah with⟨h6,-⟩|⟨-,h6⟩
        · exact h4 h6.symm
        · exact h4 (S.anti hcl hk.1 h5 h6)
     refine Sv.trans ?_ hzo.symm;rcases hah with⟨rfl,h4⟩|⟨h4,h5⟩
     · rcases Sgl.maker hC H hu hmu hk with⟨-,f,hf,hd,hall⟩|⟨k,h6,-⟩
       · obtain⟨n,hn,hfr,e⟩:=hat f hf
         have hm:=Ycb hn;have h7:=h _ ((H.g.ph _ (YK hcl) f hf).2 _ hm) (by rw[hpc];exact S.pair_ahead hcl hf hn hfr);rw[hall _ hm]at h7;have l1:=hI.li;have l2:=hI.lb;have l3:=hI.la;have u0:=hu.1;have u1:=hu.2
         have h8:=Yiw (o:={ s with steps:=wrap64 (s.steps+1) }) (b:=(s.block:Int)) (g:=ith f.args n) (v:=u) (F.blk i).phis { s with steps:=wrap64 (s.steps+1) } (by show u.toNat<s.ints.length;omega) (by show u.toNat<s.bools.length;omega) (by show u.toNat<s.arrs.length;omega) (fun q hq e2=>by
          rw[H.p _ (YK hcl) q hq _ (YK hcl) f hf ((Yix H.g hcl hq hu e2).trans hd.symm)]
          exact e) ⟨f,hf,by rw[hd]⟩
         exact(h8.trans ⟨rfl,rfl,rfl⟩).trans h7
       · exact ZO
     · refine(oth u hu fun hk2=>h4 (S.uniq hu hk hk2).1).trans (h u hu ?_)
       rw[S.ahead_iff hu hk,hpc]
       by_cases e:i=s.block
       · exact .inl ⟨e,by rw[← e];exact hlow.2⟩
       · exact .inr ⟨e,S.tab_pred h5 h4 hpr⟩
def rpB(m:Int→Int)(b:PBlock):PBlock:=⟨b.name,b.phis.map (clP m),b.insts.map (clI m),clT m b.term⟩
def rpF(m:Int→Int)(F:PFunc):PFunc:={ F with blocks:=F.blocks.map (rpB m) }
theorem YnB:(rpF m F).blocks.length=F.blocks.length:=by simp[rpF]
theorem Ygt{i:Nat}(hi:i<F.blocks.length):(rpF m F).blk i=rpB m (F.blk i):=by simp[PFunc.blk,rpF,hi]
theorem YnC{b:PBlock}{k:Nat}(hk:k<b.insts.length):(rpB m b).inst k=clI m (b.inst k):=by simp[PBlock.inst,rpB,hk]
theorem YnD{n:Nat}{x:PInst}(h:∀v∈x.args,Sv s v s (m v)):instN n s (clI m x)=instN n s x:=by
 have e:∀i,Sv s (ith (x.args.map m) i) s (ith x.args i):=fun i=>by
  by_cases hi:i<x.args.length
  · have h1:ith (x.args.map m) i=m (ith x.args i):=by simp[ith,List.getD_eq_getElem?_getD,hi]
    rw[h1];exact(h _ (Ycb hi)).symm
  · have h1:ith (x.args.map m) i=0:=by simp[ith,List.getD_eq_getElem?_getD,hi]
    have h2:ith x.args i=0:=by simp[ith,List.getD_eq_getElem?_getD,hi]
    rw[h1,h2];exact .refl
 have e1:∀i,s.int (ith (x.args.map m) i)=s.int (ith x.args i):=fun i=>(e i).1
 have e2:∀i,s.boo (ith (x.args.map m) i)=s.boo (ith x.args i):=fun i=>(e i).2.1
 have e3:∀i,s.arr (ith (x.args.map m) i)=s.arr (ith x.args i):=fun i=>(e i).2.2
 unfold instN Ybd clI;dsimp only;simp only[e1,e2,e3]
theorem Ygu{b:Int}:∀{fs l:List Int},b∈fs→fs.length=l.length→Yt fs (l.map m) b=m (Yt fs l b)
 |f::fs,a::l,h,hl=>by
  rw[List.map_cons,Yt,Yt];split
  · rfl
  · rename_i e
    exact Ygu ((List.mem_cons.1 h).resolve_left fun x=>e x.symm) (by simpa using hl)
 |f::fs,[],_,hl=>by simp at hl
theorem Yiy{o:RSt}{b:Int}:∀(ps:List PPhi) (s:RSt),(∀p∈ps,Sv o (Yt p.froms (p.args.map m) b) o (Yt p.froms p.args b))→YQ o (ps.map (clP m)) (Yu (ps.map (clP m)) b) s=YQ o ps (Yu ps b) s
 |[],_,_=>rfl
 |p::ps,s,h=>by
  obtain⟨h1,h2,h3⟩:=h p ZS;show YQ o (ps.map (clP m)) (Yu (ps.map (clP m)) b) (((s.setI p.dst (o.int (Yt p.froms (p.args.map m) b))).setB p.dst (o.boo (Yt p.froms (p.args.map m) b))).setA p.dst (o.arr (Yt p.froms (p.args.map m) b)))=_;rw[h1,h2,h3,Yiy ps _ fun q hq=>h q (by simp[hq])];rfl
theorem YnE(S:Sgl F)(hC:CpI F rk m)(hG:RgC F)(hI:RInv F s)(h:RtI F m s):Yx (rpF m F) s=Yx F s:=by
 have hb:=Ygt (m:=m) hI.blk;have ht:∀(h0:(F.blk s.block).term.kind≠0) (h1:¬s.pc<(F.blk s.block).insts.length),Sv s (F.blk s.block).term.var s (m (F.blk s.block).term.var):=fun h0 h1=>by
  have hpc:s.pc=(F.blk s.block).insts.length:=by have:=hI.pc;omega
  refine h _ (Ydm S.T hI.blk h0) ?_;have h1:=S.B _ hI.blk;unfold YO at h1;simp only[Bool.and_eq_true]at h1;have h2:=h1.2;unfold YcU at h2;rw[decide_eq_false h0,Bool.false_or]at h2;rw[hpc];exact h2
 by_cases h1:s.pc<(F.blk s.block).insts.length
 · rw[YcI h1,YcI (by rw[hb];simpa[rpB]using h1),hb,YnC h1]
   refine YnD fun v hv=>?_
   obtain⟨k,hk,rfl⟩:=List.getElem_of_mem hv;have h3:=(YcD S.T hI.blk h1).2 k hk;simp only[ith,List.getD,hk,List.getElem?_eq_getElem,Option.getD_some]at h3;exact h _ h3 (S.inst_ahead hI.blk h1 hv)
 · have hent:∀c,c∈EN F s.block→∀t:RSt,t.block=s.block→(∀u w,Sv s u s w→Sv t u t w)→YM (rpF m F) c t=YM F c t:=fun c hc t htb hts=>by
    have hpc:s.pc=(F.blk s.block).insts.length:=by have:=hI.pc;omega
    have hcl:=YbC S.T hI.blk c hc;have hld:=(Ybx S.T hI.blk).1 hc;have hfr:∀f∈(F.blk c).phis,(s.block:Int)∈f.froms∧f.froms.length=f.args.length:=fun f hf=>⟨Ygm S.T S.J hcl hI.blk hld hf,(Yeb S.T hcl hf).2.1.symm⟩
    have hg:∀f∈(F.blk c).phis,inV F (Yt f.froms f.args s.block)∧Sv s (Yt f.froms f.args s.block) s (m (Yt f.froms f.args s.block)):=fun f hf=>by
     obtain⟨n,hn,h2,e⟩:=Ygs (hfr f hf).1 (hfr f hf).2;rw[e];have h3:=(hG.ph _ (YK hcl) f hf).2 _ (Ycb hn);exact⟨h3,h _ h3 (by rw[hpc];exact S.pair_ahead hcl hf hn h2)⟩
    have hp:((rpF m F).blk c).phis=(F.blk c).phis.map (clP m):=by rw[Ygt hcl];rfl
    unfold YM;rw[hp,htb];have h4:(Yu (F.blk c).phis s.block).any (fun g=>decide (g<0))=false:=by
     rw[List.any_eq_false];intro g hg2;obtain⟨f,hf,rfl⟩:=List.mem_map.1 hg2;simpa using(hg f hf).1.1
    have h5:(Yu ((F.blk c).phis.map (clP m)) s.block).any (fun g=>decide (g<0))=false:=by
     rw[List.any_eq_false];intro g hg2;obtain⟨f',hf',rfl⟩:=List.mem_map.1 hg2;obtain⟨f,hf,rfl⟩:=List.mem_map.1 hf';have h6:Yt (clP m f).froms (clP m f).args s.block=m (Yt f.froms f.args s.block):=Ygu (hfr f hf).1 (hfr f hf).2;rw[h6];simpa using(hC.rg _ (hg f hf).1).1
    rw[h4,h5,if_neg ZD,if_neg ZD,Yiy];intro f hf;rw[Ygu (hfr f hf).1 (hfr f hf).2];exact hts _ _ (hg f hf).2.symm
   have e1:Yx (rpF m F) s=if(F.blk s.block).term.kind=2 then({ s with steps:=wrap64 (s.steps+1),value:=s.int (clT m (F.blk s.block).term).var }:RSt).endW 0
    else if(F.blk s.block).term.kind=0∨s.boo (clT m (F.blk s.block).term).var=true then YM (rpF m F) (F.blk s.block).term.t0.toNat { s with steps:=wrap64 (s.steps+1) } else YM (rpF m F) (F.blk s.block).term.t1.toNat { s with steps:=wrap64 (s.steps+1) }:=by
    have k0:(clT m (F.blk s.block).term).kind=(F.blk s.block).term.kind∧(clT m (F.blk s.block).term).t0=(F.blk s.block).term.t0∧(clT m (F.blk s.block).term).t1=(F.blk s.block).term.t1:=by
     unfold clT;split<;>exact⟨rfl,rfl,rfl⟩
    unfold Yx;dsimp only;rw[hb,if_neg (by simpa[rpB]using h1)];simp only[rpB,k0.1,k0.2.1,k0.2.2];rfl
   by_cases hk2:(F.blk s.block).term.kind=2
   · have hv:(clT m (F.blk s.block).term).var=m (F.blk s.block).term.var:=by
      unfold clT;rw[if_neg (by rw[hk2];decide)]
     rw[e1,if_pos hk2,hv,← (ht (by rw[hk2];decide) h1).1];unfold Yx;dsimp only;rw[if_neg h1,if_pos hk2];rfl
   · rcases Yds S.T hI with⟨h3,-⟩|⟨c,hc,hn,h3⟩
     · exact absurd h3 (fun e=>e.elim h1 hk2)
     · have hcase:∀X Y:RSt,(if(F.blk s.block).term.kind=0∨s.boo (clT m (F.blk s.block).term).var=true then X else Y)=if(F.blk s.block).term.kind=0∨s.boo (F.blk s.block).term.var=true then X else Y:=fun X Y=>by
        by_cases h0:(F.blk s.block).term.kind=0
        · rw[if_pos (.inl h0),if_pos (.inl h0)]
        · have hv:(clT m (F.blk s.block).term).var=m (F.blk s.block).term.var:=by
           unfold clT;rw[if_neg h0]
          rw[hv,← (ht h0 h1).2.1]
       rw[e1,if_neg hk2,hcase,h3];unfold Yby at hn;rw[if_neg (fun e=>e.elim h1 hk2)]at hn;have hq:=hent c hc { s with steps:=wrap64 (s.steps+1) } rfl fun _ _ h=>h
       by_cases h0:(F.blk s.block).term.kind=0∨s.boo (F.blk s.block).term.var=true
       · have h0':(F.blk s.block).term.kind=0∨s.bools.getD (F.blk s.block).term.var.toNat false=true:=h0
         rw[if_pos h0']at hn;rw[if_pos h0,hn,Int.toNat_natCast];exact hq
       · have h0':¬((F.blk s.block).term.kind=0∨s.bools.getD (F.blk s.block).term.var.toNat false=true):=h0
         rw[if_neg h0']at hn;rw[if_neg h0,hn,Int.toNat_natCast];exact hq
theorem Yiz(S:Sgl F)(hC:CpI F rk m)(H:CpH F rk)(hN:Ybf F):∀(K:Nat) (s:RSt),RInv F s→RtI F m s→Yf (rpF m F) K s=Yf F K s
 |0,_,_,_=>rfl
 |K+1,s,hI,h=>by
  rw[Yf,Yf,YnE S hC H.g hI h];split
  · rfl
  · exact Yiz S hC H hN K _ (hI.step S.T hN) (h.step S hC H hI)
end
end Go.Proofs.YthhjlbflpjhahaaGreatDoor
