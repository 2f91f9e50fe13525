/- The walk of copies.Clean: of a single program the clean one. -/
import Derived.Test.YthhjlbflpjhahaaGreatDoorCqQN
import Derived.Test.YthhjlbflpjhahaaGreatDoorCopyN
import Derived.Test.YthhjlbflpjhahaaGreatDoorMonLN
import Derived.Test.YthhjlbflpjhahaaGreatDoorMemTN
import Derived.Test.YthhjlbflpjhahaaGreatDoorFewQN
namespace Go.Proofs.YthhjlbflpjhahaaGreatDoor
open Go.RowKit
set_option maxRecDepth 100000
def Yl9(F:PFunc)(w':World)(e:Ending):Prop:=∃gv m r,e=.returned (.tuple #[gv,.int .i64 0])∧FnV w' w'.heap.size gv (clF m F)∧YcD F m r
theorem Yma{F:PFunc}{m:Int→Int}(h:Bnd F):Bnd (clF m F):=by
 refine⟨h.vars,h.params,by simpa[clF]using h.blocks,fun b hb=>?_,fun b hb p hp=>?_,fun b hb x hx=>?_⟩
 · obtain⟨a,ha,rfl⟩:=List.mem_map.1 hb
   have h1:=h.parts a ha;have h2:=List.length_filter_le (fun p:PPhi=>decide (m p.dst=p.dst)) a.phis;have h3:=List.length_filter_le (fun p:PInst=>decide (m p.dst=p.dst)) a.insts;simp only[clB,List.length_map];omega
 · obtain⟨a,ha,rfl⟩:=List.mem_map.1 hb
   obtain⟨q,hq,rfl⟩:=List.mem_map.1 hp;have h1:=h.pairs a ha q (List.mem_filter.1 hq).1;simp only[clP,List.length_map];exact h1
 · obtain⟨a,ha,rfl⟩:=List.mem_map.1 hb
   obtain⟨q,hq,rfl⟩:=List.mem_map.1 hx;have h1:=h.args a ha q (List.mem_filter.1 hq).1;simp only[clI,List.length_map];exact h1
set_option maxHeartbeats 16000000 in
theorem Yfi{W w:World}{fv:Value}{F:PFunc}(hU:Uni W)(hF:FnV W W.heap.size fv F)(hW:Below W.heap.size W w)(hS:Yag F)(hN:Bnd F)(hR:YR F=true)(n0:F.vars.length≤1000) :
 Calls Tryz.prog 28 #[fv] w fun e w'=>Yl9 F w' e∧Below w.heap.size w w':=by
 have hWs:=hW.size;unfold YR at hR;rw[Bool.and_eq_true]at hR;have hT:=hR.1;have S:=Sgl.of hR.1 hR.2;have hrt:=fun(w':World) (h:Below W.heap.size W w')=>Yhd hU hF h hS hN
 rw[show Yac (YR F)=0 by rw[YR,hR.1,hR.2];rfl]at hrt;have hgr:=fun(w':World) (h:Below W.heap.size W w')=>YgD hF h S.cpH hT n0
 have hcp:=fun(w':World) (h:Below W.heap.size W w')=>Yl8 hF h hN
 obtain⟨n1,n2⟩:=Yaa (Yv hT);obtain⟨A0,c0,A1,c1,A2,c2,rfl,l0,l1,l2,-,-,-,-,-,-⟩:=id hF.open_;unfold Len at l0 l1 l2;have HRT:=Lh hrt;have HGR:=Lh hgr;have HCP:=Lh hcp;have HN:=Lh hN;have HT:=Lh hT;have HS:=Lh S;clear hU hF hS hR S hrt hgr hcp hN hT;obtain⟨w3,hw3⟩:∃w3:World,w3=(w.alloc (.cells #[.slice A0 F.vars.length c0,.slice A1 F.params.length c1,.slice A2 F.blocks.length c2] 26)).alloc (.cells #[.slice none 0 0,.slice none 0 0,.slice none 0 0] 26):=⟨_,rfl⟩;have hb3:Below w.heap.size w w3:=by rw[hw3];exact BL
 have hs3:w3.heap.size=w.heap.size+2:=by rw[hw3];simp
 have x0:BoxAt w3 w.heap.size #[.slice A0 F.vars.length c0,.slice A1 F.params.length c1,.slice A2 F.blocks.length c2] 26:=by rw[hw3];exact(BoxAt.new _ _ _).alloc _
 have x1:BoxAt w3 (w.heap.size+1) #[.slice none 0 0,.slice none 0 0,.slice none 0 0] 26:=by
  rw[hw3];have:=BoxAt.new (w.alloc (.cells #[.slice A0 F.vars.length c0,.slice A1 F.params.length c1,.slice A2 F.blocks.length c2] 26)) #[.slice none 0 0,.slice none 0 0,.slice none 0 0] 26;simpa using this
 have hW3:=hW.trans (hb3.mono hWs);go_enter Tryz.func28,Tryz.ntmps28
 go_upto_region 4 with(go_at_call 51;rw[← hw3];refine(HRT.out _ hW3).mono ?_;rintro e w4 ⟨rfl,hb4⟩)
 have y0:=x0.below hb4 x0.lt;have y1:=x1.below hb4 x1.lt;have q0:=y0.cell 0;have q1:=y0.cell 1;have q2:=y0.cell 2;have ql:=y0.lt;have hW4:=hW3.trans (hb4.mono hW3.size);have hB4:=hb3.trans (hb4.mono hb3.size);have hs4:=hb4.size;simp at q0 q1 q2;clear hw3 HRT x0 x1 hb4 hb3 hW3
 go_upto_region 5 with(go_at_call 52;refine(HGR.out _ hW4).mono ?_;rintro e w5 ⟨⟨A,c,m,r,rfl,hfo,hgn⟩,hb5⟩)
 have z0:=y0.below hb5 y0.lt;have z1:=y1.below hb5 y1.lt;have hW5:=hW4.trans (hb5.mono hW4.size);have hB5:=hB4.trans (hb5.mono hB4.size);have hs5:=hb5.size;have HG:=Lh hgn;clear q0 q1 q2 ql y0 y1 HGR hW4 hB4 hb5 hgn;have q0:=z0.cell 0;have q1:=z0.cell 1;have q2:=z0.cell 2;have ql:=z0.lt;simp at q0 q1 q2;go_wp2_with fail;refine(HCP.out _ hW5).mono ?_;rintro e w6 ⟨vv,vp,vb,ps,B2,rfl,hV,hI,hps,hRb,hpw,⟨hBl,hBv⟩,hb6⟩;obtain⟨A5,c5,rfl⟩:=hV.form;obtain⟨A6,c6,rfl⟩:=Yh hI;have hpl:ps.length=F.blocks.length:=by rw[← hps,List.length_map]
 obtain⟨gb,cap,-,rfl,hcap,-,-,-,-,-,-⟩:=hRb.cells (i:=0) ZO;have HCK:CkI F w5 B2 (.slice A6 F.params.length c6) ps:=⟨hps,hpw,hBv,hBl⟩;have hs6:=hb6.size;have hpn:ps.length≤64:=by omega
 have HPL:=Lh hpl;clear hpl;obtain⟨w7,hw7⟩:∃w7:World,w7=w6.alloc (.cells #[.slice A5 F.vars.length c5,.slice A6 F.params.length c6,.slice (some ⟨gb,0,none⟩) ps.length cap] 26):=⟨_,rfl⟩;have hb7:Below w6.heap.size w6 w7:=by rw[hw7];exact YaP _ _
 have hC0:ClI F m w5 w7 w6.heap.size B2 (.slice A5 F.vars.length c5) (.slice A6 F.params.length c6) (.slice (some ⟨gb,0,none⟩) ps.length cap) ps ps 0:=by
  have hk:KT [3,64,67,62,78] w6 w7:=KT.of_below hb7;refine⟨by rw[hw7];exact BoxAt.new _ _ _,hV.kt hk ZS fun _ _ h=>h,YbJ hI hk ZS,hRb.kt hk ZS fun _ _ h=>h.kt hk ZS ZS ZS,fun _ _ _ h=>h,fun j _ hj=>ZO,fun j x q hx hq u hu=>?_,rfl,hb6.trans (hb7.mono hs6)⟩;rw[hx]at hq;cases hq;exact hu
 have HZ1:=Lh z1;have HFO:=Lh hfo;clear q0 q1 q2 ql z0 z1 hV hI hps hRb hpw hBv hcap hfo;have q2:=hC0.box.cell 2;have ql:=hC0.box.lt;simp at q2
 go_upto_region 6 with fail
 go_loud (rw[← hw7])
 have HFG:=Lh (show r≠[]→∀g,A=some ⟨g,0,none⟩→g<w5.heap.size from fun h g e=>by
  obtain⟨g',e',-,hg⟩:=HFO.out.resolve_left h;rw[e]at e';cases e'
  exact hg.fo.1)
 clear hw7 hb7 hb6;go_wp2_with fail;clear q2 ql;generalize w6.heap.size=gO at *
 go_loopw[28] (fun s wr=>∃(i:Nat) (xs:List XBlk),s=.int .i64 i∧i≤ps.length∧ClI F m w5 wr gO B2 (.slice A5 F.vars.length c5) (.slice A6 F.params.length c6) (.slice (some ⟨gb,0,none⟩) ps.length cap) ps xs i) (fun s _=>ps.length-(intOf s).toNat)
 case atStart=>exact⟨0,ps,rfl,Nz _,hC0⟩
 case round=>as_aux_lemma=>
  clear hC0;obtain⟨bi,xs,rfl,hi,hC⟩:=hrel
  by_cases hlt:bi<ps.length
  · as_aux_lemma=>
    have hxl:bi<xs.length:=by rw[hC.len];exact hlt
    have hp:xs[bi]?=some xs[bi]:=List.getElem?_eq_getElem hxl;generalize xs[bi]=p at hp;have hin:bi<F.blocks.length:=by rw[← HPL.out];exact hlt
    have hpb:p.b=F.blk bi:=by
     have h1:=congrArg (fun l:List PBlock=>l[bi]?) HCK.blk;simp only[List.getElem?_map,hC.old bi p (Nr _) hp,Option.map_some]at h1;rw[PFunc.blk_get hin]at h1;exact Option.some.inj h1
    have P:=hC.pk hp;obtain⟨AP,cP,hvp⟩:=P.hp.form;obtain⟨AI,cI,hvi⟩:=P.hi.form;have hcell:∀(wr:World) (hC:ClI F m w5 wr gO B2 (.slice A5 F.vars.length c5) (.slice A6 F.params.length c6) (.slice (some ⟨gb,0,none⟩) ps.length cap) ps xs bi),gb<wr.heap.size∧(∀o,wr.frozen? ⟨gb,o,none⟩=false)∧wr.cell? ⟨gb,bi*7+1,none⟩=some p.vp∧wr.cell? ⟨gb,bi*7+2,none⟩=some p.vi:=fun wr hC=>by
     obtain⟨cells,ho⟩:=hC.hB.own;rw[hC.len]at ho;obtain⟨g,cap',cs,hv,-,-,hgl,-,-,hc,hcs⟩:=hC.hB.cells hxl;simp only[Value.slice.injEq,Option.some.injEq,Addr.mk.injEq]at hv;obtain⟨⟨rfl,-⟩,-,-⟩:=hv;obtain⟨_,e⟩:=List.getElem?_eq_some_iff.1 hp;rw[e]at hcs;have hcs:=hcs.cs;subst hcs;exact⟨hgl,fun o=>ho.frozenAt o,hc 1 _ rfl,hc 2 _ rfl⟩
    obtain⟨hgl,-,k1,k2⟩:=hcell wr hC;rw[hvp]at k1;rw[hvi]at k2;have HC:=Lh hC;have HCELL:=Lh hcell;have hips:(bi:Int)<(ps.length:Int):=by omega
    have q2:=hC.box.cell 2;have ql:=hC.box.lt;simp at q2;clear hC hcell P
    go_upto_region 10 with fail
    go_quiet (fail)
    generalize hwd:wr.drewN nq=wd;have hbd:Below wr.heap.size wr wd:=by rw[← hwd];exact YQ (Br _ _) _
    have hCd:=HC.out.below hbd;have hsd:=hbd.size;obtain⟨hgl',hgf,k1',k2'⟩:=HCELL.out wd hCd;have f1:=hgf (bi*7+1);have f2:=hgf (bi*7+2);rw[hvp]at k1';rw[hvi]at k2';have HCD:=Lh hCd;clear hwd hgl k1 k2 hbd hCd HC q2 ql hgf
    go_upto_region 12 with fail
    obtain⟨w9,hw9⟩:∃w9:World,w9=(wd.setCell ⟨gb,bi*7+1,none⟩ (.slice none 0 0)).setCell ⟨gb,bi*7+2,none⟩ (.slice none 0 0):=⟨_,rfl⟩
    go_loud (rw[← hw9])
    have hR0:RdI p gb B2 wd w9 (.slice (some ⟨gb,0,none⟩) ps.length cap) xs bi p.b.term 0 0 (.slice none 0 0) [] (.slice none 0 0) []:=by rw[hw9];exact HCD.out.start hp
    have P:=HCD.out.pk hp;have HP:=Lh P;have HR0:=Lh hR0;have HPP:=Lh hp;have HPB:=Lh hpb;have HVP:=Lh hvp;have HVI:=Lh hvi;have hbnd:=HN.out.parts _ (YG hin);have hel:p.es.length≤100000:=by
     obtain⟨cs,hc⟩:=HCD.out.hB.all_ p (List.mem_of_getElem? hp);have h1:=congrArg List.length hc.me;rw[List.length_map,hpb]at h1;omega
    have hil:p.is.length≤100000:=by
     obtain⟨cs,hc⟩:=HCD.out.hB.all_ p (List.mem_of_getElem? hp);have h1:=congrArg List.length hc.mi;rw[List.length_map,hpb]at h1;omega
    have hme:p.es.map Prod.fst=(F.blk bi).phis:=by
     obtain⟨cs,hc⟩:=HCD.out.hB.all_ p (List.mem_of_getElem? hp);rw[hc.me,hpb]
    have hmi:p.is.map Prod.fst=(F.blk bi).insts:=by
     obtain⟨cs,hc⟩:=HCD.out.hB.all_ p (List.mem_of_getElem? hp);rw[hc.mi,hpb]
    have HME:=Lh hme;have HMI:=Lh hmi;clear hw9 hR0 P hp hpb hvp hvi k1' k2' f1 f2 hgl' hbnd hme hmi;go_wp2_with fail
    go_loopw[51] (fun s wr=>∃(k:Nat) (vq:Value),s=.int .i64 k∧k≤p.es.length∧RdI p gb B2 wd wr (.slice (some ⟨gb,0,none⟩) ps.length cap) xs bi p.b.term k 0 vq (keepE m (p.es.take k)) (.slice none 0 0) []) (fun s _=>p.es.length-(intOf s).toNat)
    case atStart=>exact⟨0,_,rfl,Nz _,HR0.out⟩
    case round=>as_aux_lemma=>
     clear HR0;obtain⟨k,vq,rfl,hk,hR⟩:=hrel;obtain⟨Aq,cq,rfl⟩:=hR.he.form
     by_cases hkl:k<p.es.length
     · as_aux_lemma=>
       have hke:p.es[k]?=some p.es[k]:=List.getElem?_eq_getElem hkl;obtain⟨gp,capP,cs,hvs,-,-,hgp,-,-,hcells,hcph⟩:=HP.out.hp.cells (i:=k) hkl;have hem:=List.mem_of_getElem? hke;have hdv:inV F p.es[k].1.dst:=by
        refine(HS.out.cpH.g.ph _ (YG hin) p.es[k].1 ?_).1;rw[← HME.out];exact List.mem_map_of_mem hem
       have hav:∀a∈p.es[k].1.args,inV F a:=by
        refine(HS.out.cpH.g.ph _ (YG hin) p.es[k].1 ?_).2;rw[← HME.out];exact List.mem_map_of_mem hem
       have hpairs:=HN.out.pairs _ (YG hin) p.es[k].1 (by rw[← HME.out];exact List.mem_map_of_mem hem);generalize p.es[k]=e at *;obtain⟨hce,hoa,hof⟩:=hcph;subst hce;obtain⟨AA,cA,hva⟩:=Yh hoa.1;obtain⟨AF,cF,hvf⟩:=Yh hof.1;have hvp2:=hvs;rw[HVP.out]at hvp2;simp only[Value.slice.injEq]at hvp2;obtain⟨rfl,-,rfl⟩:=hvp2;have hKgp:Kc p gb gp:=by
        obtain⟨cells,ho⟩:=HP.out.hp.own;have h1:NT [64] wd gp:=YaM ho ZS gp (Yn ho (by rw[hvs];rfl)).1 (by rw[hvs];rfl);exact HP.out.kc h1 ZD ZD
       have k0:=(hR.kp.cell hKgp hgp).trans (hcells 0 _ rfl);rw[Nat.add_zero]at k0;have k1:=(hR.kp.cell hKgp hgp).trans (hcells 1 _ rfl);have k2:=(hR.kp.cell hKgp hgp).trans (hcells 2 _ rfl);rw[hva]at k1;rw[hvf]at k2;have hgpr:gp<wr.heap.size:=Nt hgp hR.kp.size;obtain⟨x,hx1⟩:∃x:Nat,e.1.dst=x:=⟨e.1.dst.toNat,by have:=hdv.1;omega⟩;rw[hx1]at hdv k0;obtain⟨ws,rfl⟩:∃ws:World,ws=wr:=⟨_,rfl⟩;have hwsd:wd.heap.size≤ws.heap.size:=hR.kp.size;have HQ:=Lh (fun b (hb:(Value.slice Aq (keepE m (p.es.take k)).length cq).ownBlock=some b)=>(hR.he.lt hb).2);obtain⟨wT,hwT⟩:∃wT:World,wT=ws.alloc (.cells #[.int .i64 (x:Int),.slice AA e.1.args.length cA,.slice AF e.1.froms.length cF] 64):=⟨_,rfl⟩;have hbT:Below ws.heap.size ws wT:=by rw[hwT];exact YaP _ _
       have hXT:BoxAt wT ws.heap.size #[.int .i64 (x:Int),.slice AA e.1.args.length cA,.slice AF e.1.froms.length cF] 64:=by rw[hwT];exact BoxAt.new _ _ _
       have hRT:=hR.below hbT;have HRT:=Lh hRT;have HXT:=Lh hXT;have HX1:=Lh hx1;have HKE:=Lh hke;have HEM:=Lh hem;have HOF:=Lh hof;have HVA:=Lh hva;have HVF:=Lh hvf;have HAV:=Lh hav;have HDV:=Lh hdv
       have HFT:=Lh (fun(w':World) (h:Kp (Kc p gb) wd w')=>(show FoA w' (w4.heap.size+1) A r from by
        have h1:=HFO.out.below (HCD.out.bel)
        exact h1.kp h fun hr g e=>⟨fun e2=>by
         have h2:=HFG.out hr g e;have h3:=(HCD.out.hB.lt (k:=gb) rfl).1;have h4:=HCK.le;omega,fun u hu e2=>by
         have h2:=HFG.out hr g e;have h4:=HCK.le;obtain⟨cs,hc⟩:=HCD.out.hB.all_ p (List.mem_of_getElem? HPP.out);have h5:=(YcF hc u (Yce hu) g e2).1
         omega⟩))
       clear hcells hoa hof hva hvf hvs hke hem hR hav hdv;go_wp2_with fail
       go_loud (rw[← hwT])
       clear hwT k0 k1 k2 hbT hXT hRT;have hfT:=HFT.out wT HRT.out.kp;obtain⟨gf,hAe,-,hfb⟩:=hfT.get HG.out.f HDV.out;have hrl:=HG.out.f.len;have hfo:=YdI hfb hrl HDV.out;obtain⟨f0,-,f2,f3⟩:=hfo;have x0:=HXT.out.cell 0;have xl:=HXT.out.lt;simp at x0;subst hAe;clear hfT hfb
       by_cases hf:ith r x=(x:Int)
       · as_aux_lemma=>
         have d0:(ith r x==(x:Int))=true:=by rw[beq_iff_eq];exact hf
         have HM:=Lh (show m e.1.dst=e.1.dst by rw[HX1.out];exact(HG.out.f.fix HG.out.c HDV.out).1 hf);clear hf
         go_quiet (fail)
         generalize hwu:wT.drewN nq=wu;have hbu:Below wT.heap.size wT wu:=by rw[← hwu];exact YQ (Br _ _) _
         have hRu:=HRT.out.below hbu;have hXu:=HXT.out.below hbu HXT.out.lt;have y1:=hXu.cell 1;have yl:=hXu.lt;simp at y1;clear hwu f0 f2 f3 x0 xl hbu HRT HXT;have ho:=hRu.hr k e (Nr _) HKE.out;rw[HVA.out]at ho
         have HPT:=Lh (Yhe (c:=c) HG.out.f (HFT.out wu hRu.kp) ho HAV.out fun hr g eg e2=>by
          have h1:=HFG.out hr g eg;have h2:=HCK.le;have h3:=(Yn ho.1 e2).1
          omega)
         have HRU:=Lh hRu;have HXU:=Lh hXu;have HNB:=Lh (Ycw ho.1 hXu ZD);clear hRu hXu ho;go_wp2_with fail;refine HPT.out.mono ?_;rintro e8 w8 ⟨⟨v8,rfl⟩,ho8,hk8⟩;have hR8:=HRU.out.putP HP.out HKE.out (by rw[HVA.out];exact hk8);have hX8:=HXU.out.kp hk8 HNB.out;obtain⟨hgl,-,hgc⟩:=hR8.gbC hxl rfl;have b1:=hgc 1 _ rfl;have x0:=hX8.cell 0;have x1:=hX8.cell 1;have x2:=hX8.cell 2;have xl:=hX8.lt;simp at x0 x1 x2;have hkl2:(keepE m (p.es.take k)).length≤100000:=Nat.le_trans Yl3 hel;have hbA:Below w8.heap.size w8 (w8.alloc (.cells #[.int .i64 (x:Int),.slice AA e.1.args.length cA,.slice AF e.1.froms.length cF] 64)).drew:=Below.drew (YaP _ _);have hbN:BoxAt (w8.alloc (.cells #[.int .i64 (x:Int),.slice AA e.1.args.length cA,.slice AF e.1.froms.length cF] 64)).drew w8.heap.size #[.int .i64 (x:Int),.slice AA e.1.args.length cA,.slice AF e.1.froms.length cF] 64:=(BoxAt.new _ _ _).drew;have hR1:=hR8.below hbA;have hXA:=hX8.below hbA hX8.lt;have hD1:DRow (w8.alloc (.cells #[.int .i64 (x:Int),.slice AA e.1.args.length cA,.slice AF e.1.froms.length cF] 64)).drew (fun _=>True) 3 (CPhS (w8.alloc (.cells #[.int .i64 (x:Int),.slice AA e.1.args.length cA,.slice AF e.1.froms.length cF] 64)).drew B2) (.slice (some ⟨w8.heap.size,0,none⟩) 1 1) [clE m e]:=Yhl (cs:=[.int .i64 (x:Int),.slice AA e.1.args.length cA,.slice AF e.1.froms.length cF]) hbN rfl ⟨by show _=[Value.int .i64 e.1.dst,e.2.1,e.2.2];rw[HX1.out,HVA.out,HVF.out],by show OwnI _ B2 e.2.1 (e.1.args.map m);rw[HVA.out];exact ho8.kt (KT.of_below hbA (ts:=[3])) ZS,HOF.out.kp hR1.kp fun b hb=>HP.out.from HEM.out hb⟩;obtain⟨A9,c9,w9',hr9,hR9,hg9,-⟩:=Yhb (P:=Tryz.prog) (base:=wd.heap.size) (t:=55) (ty:=55) 3 56 Tryz.underlying55 Tryz.info64 rfl ZD ZD hR1.he hD1 (fun _ _ h=>Yl5 h) ZX (by have:=hR1.kp.size;omega);obtain⟨hgl9,hgf9,hgc9⟩:=hR1.gbP hxl hg9 rfl;have t1:=hgc9 1 _ rfl;have tf:=hgf9 (bi*7+1)
         have hX9:=hXA.grown hg9 (fun e9=>by
          have:=HQ.out _ e9
          omega)
         have x09:=hX9.cell 0;have x19:=hX9.cell 1;have x29:=hX9.cell 2;have xl9:=hX9.lt;simp at x09 x19 x29;have HS9:=Lh (hR1.snocP hxl hR9 hg9 ⟨k,e,ZO,HKE.out,rfl⟩);clear HRU HXU HPT y1 yl hk8 hgc hX8 hR8 ho8 HNB hR1 hD1 hR9 hg9 hgf9 hgc9 hbA hbN hX9 hXA;go_wp2_with fail;obtain⟨S0,hS0⟩:∃S0:World→Prop,S0=fun w'=>w'.cell? ⟨gb,bi*7+1,none⟩=some (.slice Aq (keepE m (p.es.take k)).length cq)∧w'.cell? ⟨ws.heap.size,0,none⟩=some (.int .i64 (x:Int))∧w'.cell? ⟨ws.heap.size,1,none⟩=some (.slice AA e.1.args.length cA)∧w'.cell? ⟨ws.heap.size,2,none⟩=some (.slice AF e.1.froms.length cF)∧gb<w'.heap.size∧ws.heap.size<w'.heap.size:=⟨_,rfl⟩
         have HS0:=Lh hS0;clear hS0;have k0:=fun xw=>(WS.at HS0 xw).1
         have k1:=fun xw=>(WS.at HS0 xw).2.1
         have k2:=fun xw=>(WS.at HS0 xw).2.2.1
         have k3:=fun xw=>(WS.at HS0 xw).2.2.2.1
         have k4:=fun xw=>(WS.at HS0 xw).2.2.2.2.1
         have k5:=fun xw=>(WS.at HS0 xw).2.2.2.2.2
         refine Ybz (S:=S0) [8,9,10] ZK ?hS (fun hSc hcl=>?_)
         case hS=>
          rw[HS0.out];exact⟨ZI,ZI,ZI,ZI,ZJ,ZJ⟩
         have hne0:Nonempty (WS S0):=⟨⟨_,hSc⟩⟩;have hneT:Nonempty (WS (fun _=>True)):=match hne0 with|⟨x⟩=>⟨⟨x.w,trivial⟩⟩
         refine Ya1 [(0,0),(1,0),(2,0),(3,0),(4,0),(5,0),(6,1),(7,1)] 3 rfl ZK (fun _ _ _ _ _ h=>h) hSc hcl ?_
         all_goals
          (try simp only[List.map_cons,List.map_nil,Ld,Le])
          repeat
           first
           |((with_reducible refine Ya2 ?_ ?_);exact rfl;dsimp only;go_big_quiet_step (fail);(try with_reducible refine wpQuiet_nil ?_);(try dsimp only))
           |((with_reducible refine Ya4 ?_ ?_);exact rfl;dsimp only;go_big_quiet_step (fail);(try with_reducible refine wpQuiet_nil ?_);(try dsimp only))
           |((with_reducible refine Ya3 ?_ ?_ (fun K hK=>?_))
             exact rfl;exact rfl;dsimp only
             first
             |(refine Yct _ _ _ rfl rfl rfl hr9 ?_;simp only[Act.put,La,Lz,Lc])
             |(go_simp)
             refine hK.out _ _ ?hS (fun hSc=>?_)
             case hS=>
              first
              |exact hSc
              |(rw[HS0.out]at hSc ⊢;obtain⟨p0,p1,p2,p3,p4,p5⟩:=hSc;exact⟨ZC0,ZC1,ZC2,ZC3,(by first|exact Nt p4 hb9.size|exact ZT),(by first|exact Nt p5 hb9.size|exact ZT)⟩)
             clear hK K)
          (try(refine Ya5 ?_;intro hSc hcl))
         all_goals
          refine YbA [8,9,10] rfl ZK ?_;simp only[List.map_cons,List.map_nil,Ld,Le];rw[HS0.out]at hSc;obtain⟨p0,p1,p2,p3,p4,p5⟩:=hSc;clear hne0 hneT hcl HS0 k0 k1 k2 k3 k4 k5;go_wp2;go_roundw
          (case rel=>refine⟨k+1,.slice A9 ((keepE m (p.es.take k)).length+1) c9,ZN,hkl,?_⟩;rw[Yhj HKE.out,if_pos HM.out];exact HS9.out)
          (case measure=>simp[intOf];omega)
       · as_aux_lemma=>
         have d0:(ith r x==(x:Int))=false:=by rw[beq_eq_false_iff_ne];exact hf
         have HM:=Lh (show ¬m e.1.dst=e.1.dst by rw[HX1.out];exact fun h=>hf ((HG.out.f.fix HG.out.c HDV.out).2 h));clear hf
         go_quiet (fail)
         generalize hwu:wT.drewN nq=wu;have HRU:=Lh (HRT.out.below (show Below wT.heap.size wT wu by rw[← hwu];exact YQ (Br _ _) _));clear hwu f0 f2 f3 x0 xl HRT HXT;go_wp2_with fail;go_roundw
         case rel=>
          refine⟨k+1,.slice Aq (keepE m (p.es.take k)).length cq,ZN,hkl,?_⟩;rw[Yhj HKE.out,if_neg HM.out,List.append_nil];exact HRU.out.skipP
         case measure=>simp[intOf];omega
     · as_aux_lemma=>
       obtain rfl:k=p.es.length:=by omega
       rw[List.take_length]at hR;have HR0:=Lh hR;clear hR hk hkl;go_wp2_with fail
       go_loopw[80] (fun s wr=>∃(k:Nat) (vr:Value),s=.int .i64 k∧k≤p.is.length∧RdI p gb B2 wd wr (.slice (some ⟨gb,0,none⟩) ps.length cap) xs bi p.b.term p.es.length k (.slice Aq (keepE m p.es).length cq) (keepE m p.es) vr (keepJ m (p.is.take k))) (fun s _=>p.is.length-(intOf s).toNat)
       case atStart=>exact⟨0,_,rfl,Nz _,HR0.out⟩
       case round=>as_aux_lemma=>
        clear HR0;obtain⟨k,vr,rfl,hk,hR⟩:=hrel;obtain⟨Ar,cr,rfl⟩:=hR.hn.form
        by_cases hkl:k<p.is.length
        · as_aux_lemma=>
          have hke:p.is[k]?=some p.is[k]:=List.getElem?_eq_getElem hkl;obtain⟨gp,capP,cs,hvs,-,-,hgp,-,-,hcells,hcph⟩:=HP.out.hi.cells (i:=k) hkl;have hem:=List.mem_of_getElem? hke;have hmem:p.is[k].1∈(F.blk bi).insts:=by rw[← HMI.out];exact List.mem_map_of_mem hem
          have hav:∀a∈p.is[k].1.args,inV F a:=by
           obtain⟨j,hj,e⟩:=YbI hmem;have h1:=(Ycy HT.out hin hj).2;rw[e]at h1;intro a ha;obtain⟨n,hn,rfl⟩:=List.getElem_of_mem ha;have h3:=h1 n hn;simp only[ith,List.getD,hn,List.getElem?_eq_getElem,Option.getD_some]at h3;exact h3
          have hargs:=HN.out.args _ (YG hin) _ hmem;generalize p.is[k]=e at *;obtain⟨hce,hoa⟩:=hcph;subst hce;obtain⟨AA,cA,hva⟩:=Yh hoa.1;have hvp2:=hvs;rw[HVI.out]at hvp2;simp only[Value.slice.injEq]at hvp2;obtain⟨rfl,-,rfl⟩:=hvp2;have hKgp:Kc p gb gp:=by
           obtain⟨cells,ho⟩:=HP.out.hi.own;have h1:NT [67] wd gp:=YaM ho ZS gp (Yn ho (by rw[hvs];rfl)).1 (by rw[hvs];rfl);exact HP.out.kc h1 ZD ZD
          have k0:=(hR.kp.cell hKgp hgp).trans (hcells 0 _ rfl);rw[Nat.add_zero]at k0;have k1:=(hR.kp.cell hKgp hgp).trans (hcells 1 _ rfl);have k2:=(hR.kp.cell hKgp hgp).trans (hcells 2 _ rfl);have k3:=(hR.kp.cell hKgp hgp).trans (hcells 3 _ rfl);rw[hva]at k2;have hgpr:gp<wr.heap.size:=Nt hgp hR.kp.size;obtain⟨ws,rfl⟩:∃ws:World,ws=wr:=⟨_,rfl⟩;have hwsd:wd.heap.size≤ws.heap.size:=hR.kp.size;have HQ:=Lh (fun b (hb:(Value.slice Ar (keepJ m (p.is.take k)).length cr).ownBlock=some b)=>(hR.hn.lt hb).2);obtain⟨wT,hwT⟩:∃wT:World,wT=ws.alloc (.cells #[.int .i64 e.1.op,.int .i64 e.1.dst,.slice AA e.1.args.length cA,.int .i64 e.1.num] 67):=⟨_,rfl⟩;have hbT:Below ws.heap.size ws wT:=by rw[hwT];exact YaP _ _
          have hXT:BoxAt wT ws.heap.size #[.int .i64 e.1.op,.int .i64 e.1.dst,.slice AA e.1.args.length cA,.int .i64 e.1.num] 67:=by rw[hwT];exact BoxAt.new _ _ _
          have hRT:=hR.below hbT;have HRT:=Lh hRT;have HXT:=Lh hXT;have HKE:=Lh hke;have HEM:=Lh hem;have HVA:=Lh hva;have HAV:=Lh hav
          have HFT:=Lh (fun(w':World) (h:Kp (Kc p gb) wd w')=>(show FoA w' (w4.heap.size+1) A r from by
           have h1:=HFO.out.below (HCD.out.bel)
           exact h1.kp h fun hr g e=>⟨fun e2=>by
            have h2:=HFG.out hr g e;have h3:=(HCD.out.hB.lt (k:=gb) rfl).1;have h4:=HCK.le;omega,fun u hu e2=>by
            have h2:=HFG.out hr g e;have h4:=HCK.le;obtain⟨cs,hc⟩:=HCD.out.hB.all_ p (List.mem_of_getElem? HPP.out);have h5:=(YcF hc u (Yce hu) g e2).1
            omega⟩))
          clear hcells hoa hva hvs hke hem hR hav hmem
          go_upto_region 22 with fail
          go_loud (rw[← hwT])
          clear hwT k0 k1 k2 k3 hbT hXT hRT;have y0:=HXT.out.cell 0;have y2:=HXT.out.cell 2;have yl:=HXT.out.lt;simp at y0 y2
          by_cases hcp:isCp e.1=true
          · as_aux_lemma=>
            have ho1:e.1.op=1:=of_decide_eq_true hcp;rw[ho1]at y0;have HCP1:=Lh hcp;clear ho1 hcp;go_wp2_with fail;go_roundw
            case rel=>
             refine⟨k+1,.slice Ar (keepJ m (p.is.take k)).length cr,ZN,hkl,?_⟩;rw[Yhk HKE.out,if_pos HCP1.out,List.append_nil];exact HRT.out.skipI
            case measure=>simp[intOf];omega
          · as_aux_lemma=>
            have d0:(e.1.op !=1)=true:=by
             rw[bne_iff_ne];exact fun h=>hcp (decide_eq_true h)
            have HCP1:=Lh hcp;clear hcp;have ho:=HRT.out.hi k e (Nr _) HKE.out;rw[HVA.out]at ho
            have HPT:=Lh (Yhe (c:=c) HG.out.f (HFT.out wT HRT.out.kp) ho HAV.out fun hr g eg e2=>by
             have h1:=HFG.out hr g eg;have h2:=HCK.le;have h3:=(Yn ho.1 e2).1
             omega)
            have HNB:=Lh (Ycw ho.1 HXT.out ZD);clear ho;go_wp2_with fail;refine HPT.out.mono ?_;rintro e8 w8 ⟨⟨v8,rfl⟩,ho8,hk8⟩;have hR8:=HRT.out.putI HP.out HKE.out (by rw[HVA.out];exact hk8);have hX8:=HXT.out.kp hk8 HNB.out;obtain⟨hgl,-,hgc⟩:=hR8.gbC hxl rfl;have b1:=hgc 2 _ rfl;have x0:=hX8.cell 0;have x1:=hX8.cell 1;have x2:=hX8.cell 2;have x3:=hX8.cell 3;have xl:=hX8.lt;simp at x0 x1 x2 x3;have hkl2:(keepJ m (p.is.take k)).length≤100000:=Nat.le_trans Yl4 hil;have hbA:Below w8.heap.size w8 (w8.alloc (.cells #[.int .i64 e.1.op,.int .i64 e.1.dst,.slice AA e.1.args.length cA,.int .i64 e.1.num] 67)).drew:=Below.drew (YaP _ _);have hbN:BoxAt (w8.alloc (.cells #[.int .i64 e.1.op,.int .i64 e.1.dst,.slice AA e.1.args.length cA,.int .i64 e.1.num] 67)).drew w8.heap.size #[.int .i64 e.1.op,.int .i64 e.1.dst,.slice AA e.1.args.length cA,.int .i64 e.1.num] 67:=(BoxAt.new _ _ _).drew;have hR1:=hR8.below hbA;have hXA:=hX8.below hbA hX8.lt;have hD1:DRow (w8.alloc (.cells #[.int .i64 e.1.op,.int .i64 e.1.dst,.slice AA e.1.args.length cA,.int .i64 e.1.num] 67)).drew (fun _=>True) 4 (CInS (w8.alloc (.cells #[.int .i64 e.1.op,.int .i64 e.1.dst,.slice AA e.1.args.length cA,.int .i64 e.1.num] 67)).drew B2) (.slice (some ⟨w8.heap.size,0,none⟩) 1 1) [clJ m e]:=Yhl (cs:=[.int .i64 e.1.op,.int .i64 e.1.dst,.slice AA e.1.args.length cA,.int .i64 e.1.num]) hbN rfl ⟨by show _=[Value.int .i64 e.1.op,.int .i64 e.1.dst,e.2,.int .i64 e.1.num];rw[HVA.out],by show OwnI _ B2 e.2 (e.1.args.map m);rw[HVA.out];exact ho8.kt (KT.of_below hbA (ts:=[3])) ZS⟩;obtain⟨A9,c9,w9',hr9,hR9,hg9,-⟩:=Yhb (P:=Tryz.prog) (base:=wd.heap.size) (t:=56) (ty:=56) 4 48 Tryz.underlying56 Tryz.info67 rfl ZD ZD hR1.hn hD1 (fun _ _ h=>Yl6 h) ZX (by have:=hR1.kp.size;omega);obtain⟨hgl9,hgf9,hgc9⟩:=hR1.gbI hxl hg9 rfl;have t1:=hgc9 2 _ rfl;have tf:=hgf9 (bi*7+2)
            have hX9:=hXA.grown hg9 (fun e9=>by
             have:=HQ.out _ e9
             omega)
            have x09:=hX9.cell 0;have x19:=hX9.cell 1;have x29:=hX9.cell 2;have x39:=hX9.cell 3;have xl9:=hX9.lt;simp at x09 x19 x29 x39;have HS9:=Lh (hR1.snocI hxl hR9 hg9 ⟨k,e,ZO,HKE.out,rfl⟩);clear HRT HXT HPT y0 y2 yl hk8 hgc d0 hX8 hR8 ho8 HNB hR1 hD1 hR9 hg9 hgf9 hgc9 hbA hbN hX9 hXA;go_wp2_with fail;obtain⟨S0,hS0⟩:∃S0:World→Prop,S0=fun w'=>w'.cell? ⟨gb,bi*7+2,none⟩=some (.slice Ar (keepJ m (p.is.take k)).length cr)∧w'.cell? ⟨ws.heap.size,0,none⟩=some (.int .i64 e.1.op)∧w'.cell? ⟨ws.heap.size,1,none⟩=some (.int .i64 e.1.dst)∧w'.cell? ⟨ws.heap.size,2,none⟩=some (.slice AA e.1.args.length cA)∧w'.cell? ⟨ws.heap.size,3,none⟩=some (.int .i64 e.1.num)∧gb<w'.heap.size∧ws.heap.size<w'.heap.size:=⟨_,rfl⟩
            have HS0:=Lh hS0;clear hS0;have k0:=fun xw=>(WS.at HS0 xw).1
            have k1:=fun xw=>(WS.at HS0 xw).2.1
            have k2:=fun xw=>(WS.at HS0 xw).2.2.1
            have k3:=fun xw=>(WS.at HS0 xw).2.2.2.1
            have k4:=fun xw=>(WS.at HS0 xw).2.2.2.2.1
            have k5:=fun xw=>(WS.at HS0 xw).2.2.2.2.2.1
            have k6:=fun xw=>(WS.at HS0 xw).2.2.2.2.2.2
            refine Ybz (S:=S0) [8,9,10] ZK ?hS (fun hSc hcl=>?_)
            case hS=>
             rw[HS0.out];exact⟨ZI,ZI,ZI,ZI,ZI,ZJ,ZJ⟩
            have hne0:Nonempty (WS S0):=⟨⟨_,hSc⟩⟩;have hneT:Nonempty (WS (fun _=>True)):=match hne0 with|⟨x⟩=>⟨⟨x.w,trivial⟩⟩
            refine Ya1 [(0,0),(1,0),(2,0),(3,0),(4,0),(5,0),(6,1),(7,1)] 3 rfl ZK (fun _ _ _ _ _ h=>h) hSc hcl ?_
            all_goals
             (try simp only[List.map_cons,List.map_nil,Ld,Le])
             repeat
              first
              |((with_reducible refine Ya2 ?_ ?_);exact rfl;dsimp only;go_big_quiet_step (fail);(try with_reducible refine wpQuiet_nil ?_);(try dsimp only))
              |((with_reducible refine Ya4 ?_ ?_);exact rfl;dsimp only;go_big_quiet_step (fail);(try with_reducible refine wpQuiet_nil ?_);(try dsimp only))
              |((with_reducible refine Ya3 ?_ ?_ (fun K hK=>?_))
                exact rfl;exact rfl;dsimp only
                first
                |(refine Yct _ _ _ rfl rfl rfl hr9 ?_;simp only[Act.put,La,Lz,Lc])
                |(go_simp)
                refine hK.out _ _ ?hS (fun hSc=>?_)
                case hS=>
                 first
                 |exact hSc
                 |(rw[HS0.out]at hSc ⊢;obtain⟨p0,p1,p2,p3,p4,p5,p6⟩:=hSc;exact⟨ZC0,ZC1,ZC2,ZC3,ZC4,(by first|exact Nt p5 hb9.size|exact ZT),ZT6⟩)
                clear hK K)
             (try(refine Ya5 ?_;intro hSc hcl))
            all_goals
             refine YbA [8,9,10] rfl ZK ?_;simp only[List.map_cons,List.map_nil,Ld,Le];rw[HS0.out]at hSc;obtain⟨p0,p1,p2,p3,p4,p5,p6⟩:=hSc;clear hne0 hneT hcl HS0 k0 k1 k2 k3 k4 k5 k6;go_wp2;go_roundw
             (case rel=>refine⟨k+1,.slice A9 ((keepJ m (p.is.take k)).length+1) c9,ZN,hkl,?_⟩;rw[Yhk HKE.out,if_neg HCP1.out];exact HS9.out)
             (case measure=>simp[intOf];omega)
        · as_aux_lemma=>
          obtain rfl:k=p.is.length:=by omega
          rw[List.take_length]at hR;obtain⟨hgl,hgf,hgc⟩:=hR.gbC hxl rfl;have b3:=hgc 3 _ rfl;have b4:=hgc 4 _ rfl;have f4:=hgf (bi*7+4);have HR:=Lh hR
          have HRO:=Lh (fun(hv:inV F p.b.term.var)=>Yff (c:=c) HG.out.f (show FoA wr (w4.heap.size+1) A r from by
           have h1:=HFO.out.below (HCD.out.bel)
           exact h1.kp hR.kp fun hr g e=>⟨fun e2=>by
            have h2:=HFG.out hr g e;have h3:=(HCD.out.hB.lt (k:=gb) rfl).1;have h4:=HCK.le;omega,fun u hu e2=>by
            have h2:=HFG.out hr g e;have h4:=HCK.le;obtain⟨cs,hc⟩:=HCD.out.hB.all_ p (List.mem_of_getElem? HPP.out);have h5:=(YcF hc u (Yce hu) g e2).1
            omega⟩) hv)
          clear hR hk hkl hgf hgc
          by_cases hk0:p.b.term.kind=0
          · as_aux_lemma=>
            have HK0:=Lh (show clT m p.b.term=p.b.term from YgQ hk0);rw[hk0]at b3;clear hk0 HRO;go_wp2_with fail;go_roundw
            case rel=>exact⟨bi+1,_,ZN,hlt,HCD.out.fin HCK HPP.out (by rw[HK0.out];exact HR.out)⟩
            case measure=>simp[intOf];omega
          · as_aux_lemma=>
            have d0:(p.b.term.kind !=0)=true:=by rw[bne_iff_ne];exact hk0
            have hvr:inV F p.b.term.var:=by
             have h1:=YeB HT.out hin (by rw[← HPB.out];exact hk0)
             rwa [← HPB.out]at h1
            have HK0:=Lh (show clT m p.b.term={ p.b.term with var:=m p.b.term.var } by unfold clT;rw[if_neg hk0]);have HRC:=Lh (HRO.out hvr);clear hk0 HRO hvr;go_wp2_with fail;refine HRC.out.mono ?_;rintro e8 w8 ⟨rfl,hb8⟩;have hR8:=HR.out.below hb8;obtain⟨hgl8,hgf8,hgc8⟩:=hR8.gbC hxl rfl;have t4:=hgc8 4 _ rfl;have tf:=hgf8 (bi*7+4);have HT8:=Lh (hR8.term hxl (m p.b.term.var));clear hR8 hgf8 hgc8 hb8 b3 b4 f4 hgl HR HRC;go_wp2_with fail;go_roundw
            case rel=>exact⟨bi+1,_,ZN,hlt,HCD.out.fin HCK HPP.out (by rw[HK0.out];exact HT8.out)⟩
            case measure=>simp[intOf];omega
  · as_aux_lemma=>
    obtain rfl:bi=ps.length:=by omega
    have ht:=HZ1.out.below hC.bel ZO;have hBw:=hB5.trans (hC.bel.mono ZO);have o0:=hC.box.cell 0;have o1:=hC.box.cell 1;have o2:=hC.box.cell 2;have ol:=hC.box.lt;have e0:=ht.cell 0;have e1:=ht.cell 1;have e2:=ht.cell 2;have f0:=ht.frozen 0;have f1:=ht.frozen 1;have f2:=ht.frozen 2;have el:=ht.lt;simp at o0 o1 o2 e0 e1 e2;have HC:=Lh hC;have HTB:=Lh ht;have HBWW:=Lh hBw;clear hC ht hBw hi hlt;go_wp2;have hz:=HTB.out.set3 (a:=.slice A5 F.vars.length c5) (b:=.slice A6 F.params.length c6) (c:=.slice (some ⟨gb,0,none⟩) ps.length cap);have z0:=hz.cell 0;have z1:=hz.cell 1;have z2:=hz.cell 2;simp only[List.getElem?_toArray,List.getElem?_cons_zero,List.getElem?_cons_succ]at z0 z1 z2;have hK:KT [3,64,67,62,78] wr (((wr.setCell ⟨w.heap.size+1,0,none⟩ (.slice A5 F.vars.length c5)).setCell ⟨w.heap.size+1,1,none⟩ (.slice A6 F.params.length c6)).setCell ⟨w.heap.size+1,2,none⟩ (.slice (some ⟨gb,0,none⟩) ps.length cap)):=
     ((KT.refl.setCell HTB.out ZS _).setCell (HTB.out.set 0 _) ZS _).setCell ((HTB.out.set 0 _).set 1 _) ZS _
    have hBz:=((HBWW.out.setCell (p:=⟨w.heap.size+1,0,none⟩) ZS (.slice A5 F.vars.length c5)).setCell (p:=⟨w.heap.size+1,1,none⟩) ZS (.slice A6 F.params.length c6)).setCell (p:=⟨w.heap.size+1,2,none⟩) ZS (.slice (some ⟨gb,0,none⟩) ps.length cap);have hC2:=HC.out;have h2:=HS.out.cpH;have hcb:∀b∈F.blocks,cpB m b=clB m b:=fun b hb=>YkE HG.out.c h2.g HG.out.n h2.i h2.ip hb
    have hfn:=ClI.fn (by rw[← HPL.out];exact hC2) HCK hK hcb (Yma HN.out);exact bodyPost_ret (v:=.tuple #[.agg #[.slice A5 F.vars.length c5,.slice A6 F.params.length c6,.slice (some ⟨gb,0,none⟩) ps.length cap],.int .i64 0]) (by simp[results,Tryz.results28,go_sem,z0,z1,z2]) rfl ⟨⟨_,m,r,rfl,hfn,HG.out⟩,hBz⟩
def fnC:PFunc:=⟨[⟨⟨#[110]⟩,0⟩,⟨⟨#[109]⟩,0⟩,⟨⟨#[107]⟩,0⟩],[0],[⟨⟨#[97]⟩,[],[⟨1,1,[0],0⟩,⟨1,2,[1],0⟩],⟨2,2,0,0⟩⟩]⟩
theorem YdO:Yr fnC=true:=by decide +kernel
theorem Ymb:Yc fnC=true:=by decide +kernel
theorem Yhm:YR fnC=true:=by
 have h1:YU fnC=true:=by decide +kernel
 have h2:Ybw fnC=true:=by decide +kernel
 have h3:YL fnC=true:=by decide +kernel
 have h4:∀T,Yu fnC T 0=true:=fun T=>by kernel_rfl
 unfold YR singleB;rw[Ymb,h1,h2,h3];simp only[Bool.true_and];refine List.all_eq_true.2 fun i hi=>?_
 have:i<1:=List.mem_range.1 hi;obtain rfl:i=0:=by omega
 exact h4 _
theorem Yhn{m:Int→Int}{r:List Int}(h:YcD fnC m r):m 2=0∧(clF m fnC).blocks.length=1∧((clF m fnC).blk 0).insts.length=0∧((clF m fnC).blk 0).term.var=0:=by
 have hb:(⟨⟨#[97]⟩,[],[⟨1,1,[0],0⟩,⟨1,2,[1],0⟩],⟨2,2,0,0⟩⟩:PBlock)∈fnC.blocks:=List.mem_singleton.2 rfl;have n1:=h.n _ hb ⟨1,1,[0],0⟩ ZS rfl;have n2:=h.n _ hb ⟨1,2,[1],0⟩ ZS rfl;have d1:=h.c.dc _ hb ⟨1,1,[0],0⟩ ZS rfl n1;have d2:=h.c.dc _ hb ⟨1,2,[1],0⟩ ZS rfl n2;have h0:m 0=0:=Classical.byContradiction fun e=>by
  obtain⟨b,hb,h1⟩:=h.c.made 0 e;have hb:=List.mem_singleton.1 hb;subst hb;rcases h1 with⟨x,hx,-,h2⟩|⟨p,hp,-⟩
  · simp at hx
    rcases hx with rfl|rfl<;>simp at h2
  · simp at hp
 have e1:m 1=m 0:=d1;have e2:m 2=m 1:=d2;have n1:m 1≠1:=n1;have n2:m 2≠2:=n2;refine⟨by rw[e2,e1,h0],rfl,?_,?_⟩
 · show((([⟨1,1,[0],0⟩,⟨1,2,[1],0⟩]:List PInst).filter fun x=>decide (m x.dst=x.dst)).map (clI m)).length=0
   simp[n1,n2]
 · show m 2=0
   rw[e2,e1,h0]
theorem Ymc{w:World}{b:Nat}(hl:b+5<w.heap.size)(c0:∀j,w.cell? ⟨b,j,none⟩=(#[.string ⟨#[110]⟩,.int .i64 0,.string ⟨#[109]⟩,.int .i64 0,.string ⟨#[107]⟩,.int .i64 0]:Array Value)[j]?)(c1:∀j,w.cell? ⟨b+1,j,none⟩=(#[.int .i64 0]:Array Value)[j]?)
 (c2:∀j,w.cell? ⟨b+2,j,none⟩=(#[.int .i64 0]:Array Value)[j]?) (c3:∀j,w.cell? ⟨b+3,j,none⟩=(#[.int .i64 1]:Array Value)[j]?)
 (c4:∀j,w.cell? ⟨b+4,j,none⟩=(#[.int .i64 1,.int .i64 1,.slice (some ⟨b+2,0,none⟩) 1 1,.int .i64 0,.int .i64 1,.int .i64 2,.slice (some ⟨b+3,0,none⟩) 1 1,.int .i64 0]:Array Value)[j]?)
 (c5:∀j,w.cell? ⟨b+5,j,none⟩=(#[.string ⟨#[97]⟩,.slice none 0 0,.slice (some ⟨b+4,0,none⟩) 2 2,.int .i64 2,.int .i64 2,.int .i64 0,.int .i64 0]:Array Value)[j]?) :
 FnV w w.heap.size (.agg #[.slice (some ⟨b,0,none⟩) 3 3,.slice (some ⟨b+1,0,none⟩) 1 1,.slice (some ⟨b+5,0,none⟩) 1 1]) fnC:=by
 refine⟨_,_,_,rfl,⟨_,_,rfl,by simp[Len,fnC],ZD,fun i x hx=>?_⟩,⟨_,_,rfl,by simp[Len,fnC],ZD,fun i x hx=>?_⟩,⟨_,_,rfl,by simp[Len,fnC],ZD,fun i x hx=>?_⟩⟩
 · refine⟨b,0,rfl,ZO,?_⟩
   match i,hx with
   |0,hx=>cases hx;exact⟨ZD,c0 0,c0 1⟩
   |1,hx=>cases hx;exact⟨ZD,c0 2,c0 3⟩
   |2,hx=>cases hx;exact⟨ZD,c0 4,c0 5⟩
 · refine⟨b+1,0,rfl,ZO,?_⟩
   match i,hx with
   |0,hx=>cases hx;exact c1 0
 · refine⟨b+5,0,rfl,ZO,?_⟩
   match i,hx with
   |0,hx=>
    cases hx;refine⟨ZD,c5 0,⟨_,c5 1,Ykc⟩,⟨_,c5 2,_,_,rfl,by simp[Len],ZD,fun i x hx=>⟨b+4,0,rfl,ZO,?_⟩⟩,c5 3,c5 4,c5 5,c5 6⟩
    match i,hx with
    |0,hx=>
     cases hx;refine⟨c4 0,c4 1,⟨_,c4 2,_,_,rfl,by simp[Len],ZD,fun i x hx=>⟨b+2,0,rfl,ZO,?_⟩⟩,c4 3⟩
     match i,hx with
     |0,hx=>cases hx;exact c2 0
    |1,hx=>
     cases hx;refine⟨c4 4,c4 5,⟨_,c4 6,_,_,rfl,by simp[Len],ZD,fun i x hx=>⟨b+3,0,rfl,ZO,?_⟩⟩,c4 7⟩
     match i,hx with
     |0,hx=>cases hx;exact c3 0
theorem Ymd{w V:World}{b0 b1 b2 b3 b4 b5:Array Value}{t0 t1 t2 t3 t4 t5:TypeId}(hV:V=((((((w.alloc (.cells b0 t0)).alloc (.cells b1 t1)).alloc (.cells b2 t2)).alloc (.cells b3 t3)).alloc (.cells b4 t4)).alloc (.cells b5 t5))) :
 BoxAt V (w.heap.size) b0 t0∧BoxAt V (w.heap.size+1) b1 t1∧BoxAt V (w.heap.size+2) b2 t2∧BoxAt V (w.heap.size+3) b3 t3∧BoxAt V (w.heap.size+4) b4 t4∧BoxAt V (w.heap.size+5) b5 t5:=by
 subst hV;have h0:=BoxAt.new w b0 t0;have h1:=BoxAt.new (w.alloc (.cells b0 t0)) b1 t1;have h2:=BoxAt.new ((w.alloc (.cells b0 t0)).alloc (.cells b1 t1)) b2 t2;have h3:=BoxAt.new (((w.alloc (.cells b0 t0)).alloc (.cells b1 t1)).alloc (.cells b2 t2)) b3 t3;have h4:=BoxAt.new ((((w.alloc (.cells b0 t0)).alloc (.cells b1 t1)).alloc (.cells b2 t2)).alloc (.cells b3 t3)) b4 t4;have h5:=BoxAt.new (((((w.alloc (.cells b0 t0)).alloc (.cells b1 t1)).alloc (.cells b2 t2)).alloc (.cells b3 t3)).alloc (.cells b4 t4)) b5 t5;simp only[World.size_alloc]at h1 h2 h3 h4 h5;exact⟨((((h0.alloc _).alloc _).alloc _).alloc _).alloc _,(((h1.alloc _).alloc _).alloc _).alloc _,((h2.alloc _).alloc _).alloc _,(h3.alloc _).alloc _,h4.alloc _,h5⟩
set_option maxHeartbeats 4000000 in
theorem Yme{W w:World}(hU:Uni W)(hW:Below W.heap.size W w) :
 Calls Tryz.prog 27 #[] w fun e w'=>e=.returned (.bool true)∧Below w.heap.size w w':=by
 obtain⟨V,hV⟩:∃V:World,V=((((((w.alloc (.cells #[.string ⟨#[110]⟩,.int .i64 0,.string ⟨#[109]⟩,.int .i64 0,.string ⟨#[107]⟩,.int .i64 0] 78)).alloc (.cells #[.int .i64 0] 3)).alloc (.cells #[.int .i64 0] 3)).alloc (.cells #[.int .i64 1] 3)).alloc (.cells #[.int .i64 1,.int .i64 1,.slice (some ⟨w.heap.size+1+1,0,none⟩) 1 1,.int .i64 0,.int .i64 1,.int .i64 2,.slice (some ⟨w.heap.size+1+1+1,0,none⟩) 1 1,.int .i64 0] 67)).alloc (.cells #[.string ⟨#[97]⟩,.slice none 0 0,.slice (some ⟨w.heap.size+1+1+1+1,0,none⟩) 2 2,.int .i64 2,.int .i64 2,.int .i64 0,.int .i64 0] 62)):=⟨_,rfl⟩;have hb0:Below w.heap.size w V:=by subst hV;(focus repeat(first|assumption|exact Br _ _|refine Below.drew ?_|refine Below.alloc ?_ (by first|omega|exact Below.size ZA|(simp;done)|(simp;omega)) _|(refine Below.trans ?_ (Below.mono ZA ?_);rotate_left;exact(by first|omega|exact Below.size ZA|(simp;done)|(simp;omega)))))
 have hU9:=(hU.below hW).below hb0;have hs9:V.heap.size=w.heap.size+6:=by subst hV;simp
 obtain⟨x0,x1,x2,x3,x4,x5⟩:=Ymd hV;have hF1:FnV V V.heap.size (.agg #[.slice (some ⟨w.heap.size,0,none⟩) 3 3,.slice (some ⟨w.heap.size+1,0,none⟩) 1 1,.slice (some ⟨w.heap.size+1+1+1+1+1,0,none⟩) 1 1]) fnC:=Ymc (b:=w.heap.size) (w:=V) ZO x0.cell x1.cell x2.cell x3.cell x4.cell x5.cell;have hBX:=BoxAt.new V #[.slice (some ⟨w.heap.size,0,none⟩) 3 3,.slice (some ⟨w.heap.size+1,0,none⟩) 1 1,.slice (some ⟨w.heap.size+1+1+1+1+1,0,none⟩) 1 1] 26;have hVF:=YaP V (.cells #[.slice (some ⟨w.heap.size,0,none⟩) 3 3,.slice (some ⟨w.heap.size+1,0,none⟩) 1 1,.slice (some ⟨w.heap.size+1+1+1+1+1,0,none⟩) 1 1] 26);have h1:=Yfi hU9 hF1 hVF (YcA YdO) (Ydd YdO) Yhm ZD;have h2:=fun(w':World) (h:Below V.heap.size V w')=>YlY hU9 hF1 h (YcA YdO) (Ydd YdO) Yhm ZD
 have HB0:=Lh hb0;have HBX:=Lh hBX;have HVF:=Lh hVF;have h9:w.heap.size≤V.heap.size:=by omega
 clear x0 x1 x2 x3 x4 x5 hF1 hU9 hU hW hb0 hBX hVF;go_enter Tryz.func27,Tryz.ntmps27;go_wp2_with fail;rw[← hV];clear hV;refine h1.mono ?_;rintro e w5 ⟨⟨gv,m,r,rfl,hG,hgr⟩,hb5⟩;obtain⟨g0,g1,g2,g3⟩:=Yhn hgr;obtain⟨A0,c0,A1,c1,A2,c2,rfl,-,-,-,-,-,-,-,-,r2⟩:=hG.open_;have HR2:=Lh r2;rw[g1];have hbf:=HBX.out.below hb5 HBX.out.lt;rw[show V.heap.size=w.heap.size+1+1+1+1+1+1 from ZO]at hbf;have q0:=hbf.cell 0;have q1:=hbf.cell 1;have q2:=hbf.cell 2;have ql:=hbf.lt;have hV5:=HVF.out.trans (hb5.mono HVF.out.size);have HB5:=Lh (HB0.out.trans (hV5.mono h9));have HG1:=Lh g1;have HG2:=Lh g2;have HG3:=Lh g3;obtain⟨w6,hw6⟩:∃w6:World,w6=w5.alloc (.cells #[.slice A0 (clF m fnC).vars.length c0,.slice A1 (clF m fnC).params.length c1,.slice A2 1 c2] 26):=⟨_,rfl⟩;have hb6:Below w5.heap.size w5 w6:=by rw[hw6];exact YaP _ _
 have hx6:BoxAt w6 w5.heap.size #[.slice A0 (clF m fnC).vars.length c0,.slice A1 (clF m fnC).params.length c1,.slice A2 1 c2] 26:=by rw[hw6];exact BoxAt.new _ _ _
 have h3:=h2 w6 (hV5.trans (hb6.mono hV5.size));have hbf6:=hbf.below hb6 hbf.lt;simp at q0 q1 q2;clear hb5 hG r2 h1 h2 hgr g0 g1 g2 g3 hV5 hbf
 go_upto_region 3 with fail
 go_loud (rw[← hw6])
 clear hw6 q0 q1 q2 ql;have q0:=hbf6.cell 0;have q1:=hbf6.cell 1;have q2:=hbf6.cell 2;have ql:=hbf6.lt;simp at q0 q1 q2;go_wp2_with fail;refine h3.mono ?_;rintro e w7 ⟨⟨A,c,m',r',rfl,hown,hgr⟩,hb7⟩;obtain⟨e0,-,-,-⟩:=Yhn hgr;obtain⟨gA,rfl⟩:∃gA,A=some ⟨gA,0,none⟩:=by
  rcases hown.2 with⟨-,h0⟩|⟨g,cap,cur,hv,-⟩
  · exact absurd h0 ZD
  · simp only[Value.slice.injEq]at hv
    exact⟨g,hv.1⟩
 have t2:=hown.cellAt 2 ZD;have tl:=(hown.lt gA rfl).2;replace t2:w7.cell? ⟨gA,2,none⟩=some (.int .i64 (m' 2)):=t2;rw[e0]at t2;have hx7:=hx6.below hb7 hx6.lt;have hb57:=hb6.trans (hb7.mono hb6.size);obtain⟨bb,off,A3,c3,A4,c4,rfl,hbb,-,-,-,hy2,-,hy4,-,-,-,-,-,-,-,-⟩:=HR2.out.blk hb57 (i:=0) (by rw[HG1.out];decide);rw[HG2.out]at hy2;rw[HG3.out]at hy4;replace hy2:w7.cell? ⟨bb,off+2,none⟩=some (.slice A4 0 c4):=by simpa using hy2
 replace hy4:w7.cell? ⟨bb,off+4,none⟩=some (.int .i64 0):=by simpa using hy4
 have s2:=hx7.cell 2;have sl:=hx7.lt;simp at s2;have HB7:=Lh (HB5.out.trans (hb57.mono HB5.out.size));clear hx6 hx7 hb57 hb6 hb7 hown hgr hbf6 q0 q1 q2 ql e0 HR2;go_wp2_with fail;go_ret;exact⟨rfl,HB7.out⟩
end Go.Proofs.YthhjlbflpjhahaaGreatDoor
