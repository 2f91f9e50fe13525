/- The walk of graph.Prune: of a typed program what is left without what isn't reached, or that there is none. -/
import Derived.Test.YthhjlbflpjhahaaGreatDoorMemZ
import Derived.Test.YthhjlbflpjhahaaGreatDoorPrJZ
import Derived.Test.YthhjlbflpjhahaaGreatDoorJoinQZ
import Derived.Test.YthhjlbflpjhahaaGreatDoorCopyZ
namespace Go.Proofs.YthhjlbflpjhahaaGreatDoor
open Go.RowKit
set_option maxRecDepth 100000
theorem mapr_set{α:Type}{n i:Nat}{f g:Nat→α}{v:α}(hi:g i=v)(hne:∀j,j≠i→g j=f j):((List.range n).map f).set i v=(List.range n).map g:=by
 apply List.ext_getElem?;intro j;rw[List.getElem?_set]
 by_cases e:i=j
 · subst e
   by_cases hj:i<n
   · simp[hj,hi]
   · simp[hj]
 · simp only[if_neg e,List.getElem?_map]
   by_cases hj:j<n
   · simp[hj,hne j (fun h=>e h.symm)]
   · simp[hj]
def numN(F:PFunc)(i:Nat):Int:=if thB F i=true then(numP F i:Int) else -1
def numL(F:PFunc)(i:Nat):List Int:=(List.range F.blocks.length).map fun j=>if j<i then numN F j else 0
section
variable {F:PFunc} {i j:Nat}
theorem numL_len:(numL F i).length=F.blocks.length:=by simp[numL]
theorem numL_zero:(numL F 0).map (Value.int .i64)=List.replicate F.blocks.length (.int .i64 0):=by
 unfold numL;rw[List.map_map];refine List.ext_getElem ZS fun i h1 h2=>?_
 simp
theorem numL_at(h:j<F.blocks.length):ith (numL F i) j=if j<i then numN F j else 0:=by simp[ith,numL,List.getD,h]
theorem numL_set:(numL F i).set i (numN F i)=numL F (i+1):=
 mapr_set (if_pos (Nat.lt_succ_self _)) fun j hj=>by
  by_cases h:j<i
  · rw[if_pos h,if_pos ZO]
  · rw[if_neg h,if_neg ZO]
theorem numN_yes(h:thB F i=true):numN F i=(numP F i:Int):=if_pos h
theorem numN_no(h:thB F i=false):numN F i=-1:=if_neg (by rw[h];decide)
end
def PrTh(F:PFunc)(w:World)(vt vf:Value):Prop:=∃Ap cp gt,vf=.slice Ap F.blocks.length cp∧vt=.slice (some ⟨gt,0,none⟩) F.blocks.length F.blocks.length∧Rd w.heap.size Ap (predsOf F) 1 (RowC w w.heap.size)∧gt<w.heap.size∧∀i,i<F.blocks.length→w.cell? ⟨gt,i,none⟩=some (.bool (thB F i))
theorem PrTh.below{F:PFunc}{w w':World}{vt vf:Value}(h:PrTh F w vt vf)(hb:Below w.heap.size w w'):PrTh F w' vt vf:=by
 obtain⟨Ap,cp,gt,h6,h7,hr,hg,hc⟩:=h;exact⟨Ap,cp,gt,h6,h7,rowsP_move hr hb,Nt hg hb.size,fun i hi=>(hb.cell (p:=⟨gt,i,none⟩) hg).trans (hc i hi)⟩
def RetPr(w:World)(b:Bool)(G:PFunc)(e:Ending)(w':World):Prop:=Below w.heap.size w w'∧((b=true∧∃gv,e=.returned (.tuple #[gv,.int .i64 0])∧FnV w' w'.heap.size gv G)∨(b=false∧e=.returned (.tuple #[.agg #[.slice none 0 0,.slice none 0 0,.slice none 0 0],.int .i64 3])))
def FnF(w:World)(B:Nat)(v:Value)(F:PFunc):Prop:=∃vv vp vb ps,v=.agg #[vv,vp,vb]∧RRow w B 78 2 CVar vv F.vars∧w.ownsRow B 3 1 vp F.params.length (F.params.map (Value.int .i64))∧RRow w B 62 7 (CBO w B) vb ps∧ps.map Prod.fst=F.blocks
theorem FnF.fn{w:World}{B:Nat}{v:Value}{F:PFunc}(h:FnF w B v F)(hB:Bnd F):FnV w w.heap.size v F:=by
 obtain⟨vv,vp,vb,ps,rfl,h1,h2,h3,h4⟩:=h;exact fn_of h1 h2 h3 h4 hB
theorem FnF.kt{w w':World}{B:Nat}{v:Value}{F:PFunc}(h:FnF w B v F)(hk:KT [3,64,67,62,78] w w'):FnF w' B v F:=by
 obtain⟨vv,vp,vb,ps,rfl,h1,h2,h3,h4⟩:=h;exact⟨vv,vp,vb,ps,rfl,h1.kt hk ZS fun _ _ h=>h,own_kt h2 hk ZS,h3.kt hk ZS fun _ _ h=>CBO.kt hk ZS ZS ZS h,h4⟩
def RetPrF(w:World)(b:Bool)(G:PFunc)(e:Ending)(w':World):Prop:=Below w.heap.size w w'∧((b=true∧∃gv B,e=.returned (.tuple #[gv,.int .i64 0])∧FnF w' B gv G)∨(b=false∧e=.returned (.tuple #[.agg #[.slice none 0 0,.slice none 0 0,.slice none 0 0],.int .i64 3])))
def NumV(F:PFunc)(w:World)(v:Value):Prop:=∃g,v=.slice (some ⟨g,0,none⟩) F.blocks.length F.blocks.length∧g<w.heap.size∧Rd w.heap.size (some ⟨g,0,none⟩) (numL F F.blocks.length) 1 (IntC w)
set_option maxHeartbeats 16000000 in
theorem pruneF_calls{W w:World}{fv:Value}{F:PFunc}(hU:Uni W)(hF:FnV W W.heap.size fv F)(hW:Below W.heap.size W w)(hS:Small F)(hN:Bnd F)(hT:typedP F=true) :
 Calls Tryz.prog 40 #[fv] w (RetPrF w (joinB (prF F)) (prF F)):=by
 have hWs:=hW.size;obtain⟨n1,n2⟩:=shaped_count (typed_shaped hT);have hrt:=fun(w':World) (h:Below W.heap.size W w')=>right_calls hU hF h hS
 have hpr:=fun(w':World) (h:Below W.heap.size W w')=>preds_calls hF h hT
 have hre:=fun(w':World) (h:Below W.heap.size W w')=>reach_calls hF h hT
 have HCP:=Lh (fun(w':World) (h:Below W.heap.size W w')=>copy_calls hF h hN);rw[hT]at hrt;have HTA:=Lh (fun i (_:i<F.blocks.length)=>show(marksL F.blocks.length (postO F).reverse).getD i false=thB F i from rfl);have HT:=Lh hT;have HPL:=Lh (predsF_len (F:=F) F.blocks.length);have HML:=Lh (marksL_len (n:=F.blocks.length) (l:=(postO F).reverse));have HU:=Lh hU;have HF:=Lh hF;have HN:=Lh hN;obtain⟨A0,c0,A1,c1,A2,c2,rfl,l0,l1,l2,-,-,-,r0,r1,r2⟩:=id hF.open_;unfold Len at *;obtain⟨w3,hw3⟩:∃w3:World,w3=(w.alloc (.cells #[.slice A0 F.vars.length c0,.slice A1 F.params.length c1,.slice A2 F.blocks.length c2] 26)).alloc (.cells #[.slice none 0 0,.slice none 0 0,.slice none 0 0] 26):=⟨_,rfl⟩;have hb3:Below w.heap.size w w3:=by rw[hw3];exact BL
 have hs3:w3.heap.size=w.heap.size+2:=by rw[hw3];simp
 have x0:BoxAt w3 w.heap.size #[.slice A0 F.vars.length c0,.slice A1 F.params.length c1,.slice A2 F.blocks.length c2] 26:=by rw[hw3];exact(BoxAt.new _ _ _).alloc _
 have x1:BoxAt w3 (w.heap.size+1) #[.slice none 0 0,.slice none 0 0,.slice none 0 0] 26:=by
  rw[hw3];have:=BoxAt.new (w.alloc (.cells #[.slice A0 F.vars.length c0,.slice A1 F.params.length c1,.slice A2 F.blocks.length c2] 26)) #[.slice none 0 0,.slice none 0 0,.slice none 0 0] 26;simpa using this
 have hW3:=hW.trans (hb3.mono hWs);obtain⟨ib,hib,hz0,hz1,hz2⟩:=info_parts Tryz.info3;clear hT hU hS hN hF;go_enter Tryz.func40,Tryz.ntmps40;go_wp2_with(go_at_call 63;rw[← hw3];refine(hrt _ hW3).mono ?_;rintro e w4 ⟨rfl,hb4⟩);have y0:=x0.below hb4 x0.lt;have q0:=y0.cell 0;have q1:=y0.cell 1;have q2:=y0.cell 2;have ql:=y0.lt;have hW4:=hW3.trans (hb4.mono hW3.size);simp at q0 q1 q2;clear hw3 hrt
 go_cut[4,5] (fun s4 s5 wx=>PrTh F wx s4 s5∧Below w3.heap.size w3 wx)
 case first=>as_aux_lemma=>
  obtain⟨S0,hS0⟩:∃S0:World→Prop,S0=fun w'=>w'.cell? ⟨w.heap.size,0,none⟩=some (.slice A0 F.vars.length c0)∧w'.cell? ⟨w.heap.size,1,none⟩=some (.slice A1 F.params.length c1)∧w'.cell? ⟨w.heap.size,2,none⟩=some (.slice A2 F.blocks.length c2)∧Below w4.heap.size w4 w'∧w.heap.size<w'.heap.size:=⟨_,rfl⟩
  have HS0:=Lh hS0;clear hS0;have k0:=fun xw=>(WS.at HS0 xw).1
  have k1:=fun xw=>(WS.at HS0 xw).2.1
  have k2:=fun xw=>(WS.at HS0 xw).2.2.1
  have k3:=fun xw=>(WS.at HS0 xw).2.2.2.1
  have k4:=fun xw=>(WS.at HS0 xw).2.2.2.2
  refine wp_region_tree (S:=S0) ZK ?hS (fun hSc=>?_)
  case hS=>
   rw[HS0.out];exact⟨ZI,ZI,ZI,BL,ZJ⟩
  have hne0:Nonempty (WS S0):=⟨⟨_,hSc⟩⟩;refine wpTree_run [(0,false),(2,false),(1,true),(3,true),(4,false),(5,false)] 0 rfl ZK (fun _ _ _ _ _ h=>h) hSc ?_
  all_goals
   (try simp only[List.map_cons,List.map_nil,Ld,Le])
   repeat
    first
    |((with_reducible refine wpSchR_lk ?_ ?_);exact rfl;dsimp only;go_big_quiet_step (fail);(try with_reducible refine wpQuiet_nil ?_);(try dsimp only))
    |((with_reducible refine wpSchR_at ?_ ?_ (fun K hK=>?_))
      exact rfl;exact rfl;dsimp only;go_simp;(try go_wp2_with(first|(go_at_call 64;refine(hpr _ (hW4.trans (Below.mono BL hW4.size))).mono ?_;rintro e wp ⟨Ap,cp,rfl,lp,kp,rp,hbp⟩;have hb9:=hbp;obtain⟨hc9,hf9⟩:=bcell hb9;have hz9:=hb9.size;(try simp at hz9))|(go_at_call 66;refine(hre _ (hW4.trans (Below.mono BL hW4.size))).mono ?_;rintro e wt ⟨gt,rfl,hot,hbt⟩;have hb9:=hbt;obtain⟨hc9,hf9⟩:=bcell hb9;have hz9:=hb9.size;(try simp at hz9))));refine hK.out _ _ ?hS (fun hSc=>?_)
      case hS=>
       first
       |exact hSc
       |(rw[HS0.out]at hSc ⊢;obtain⟨p0,p1,p2,p3,p4⟩:=hSc;exact⟨ZC0,ZC1,ZC2,(by first|exact p3.trans (hb9.mono (by have:=p3.size;first|omega|(simp at this ⊢;omega)))|exact BL),(by first|exact Nt p4 hb9.size|exact ZT)⟩)
      clear hK K)
   (try(refine wpSchR_nil ?_;intro hSc))
  all_goals
   refine wpTree_end ZK ?_;rw[HS0.out]at hSc;obtain⟨p0,p1,p2,p3,p4⟩:=hSc;clear hne0 HS0 k0 k1 k2 k3 k4;go_wp2_with fail
   go_meet
   refine⟨⟨Ap,cp,gt,by rw[show(predsOf F).length=F.blocks.length from HPL.out],rfl,?_,?_,?_⟩,hb4.trans (p3.mono hb4.size)⟩
   · first|exact rp|exact rowsP_move rp BL
   · first|exact(hot.lt gt rfl).2|exact Nt (hot.lt gt rfl).2 hbp.size
   · exact fun i hi=>by have h1:=own_bool hot hi;rw[HTA.out i hi]at h1;first|exact h1|exact(hbp.cell (p:=⟨gt,i,none⟩) (hot.lt gt rfl).2).trans h1
 case rest=>as_aux_lemma=>
  obtain⟨hPT,hb5⟩:=hcut;obtain⟨wA,rfl⟩:∃wA:World,wA=wc:=⟨_,rfl⟩;clear hpr hre q0 q1 q2 ql y0 hb4 hW4;have y0:=x0.below hb5 x0.lt;have q2:=y0.cell 2;have ql:=y0.lt;simp at q2;obtain⟨Ap,cp,gt,rfl,rfl,hRp,hgt,hct⟩:=id hPT;have HB5:=Lh hb5;clear hRp;go_wp2_with(at_make;refine wpList_make_full _ rfl _ _ 23 rfl wA.heap.size 3 ib _ 1 Tryz.underlying23 hib hz0 hz1 _ _ _ _ _ rfl rfl rfl rfl (by rw[hz2];omega) (by unfold maxLen;omega) (Nr _) ?_;intro w1 hs1 hg1);have hb1:Below wA.heap.size wA w1:=(Br _ _).grown hg1 (Nr _) (fun k hk=>by cases hk);have ho1:w1.ownsRow wA.heap.size 3 1 (.slice (some ⟨wA.heap.size,0,none⟩) F.blocks.length F.blocks.length) F.blocks.length ((numL F 0).map (Value.int .i64)):=by
   rw[numL_zero];simpa[Value.cells,toList_madeCells_one]using hs1
  clear hs1 hg1 q2 ql y0
  go_loopw[7,30] (fun s7 s30 wr=>∃i:Nat,s7=.int .i64 (numP F i)∧s30=.int .i64 i∧i≤F.blocks.length∧wr.ownsRow wA.heap.size 3 1 (.slice (some ⟨wA.heap.size,0,none⟩) F.blocks.length F.blocks.length) F.blocks.length ((numL F i).map (Value.int .i64))∧Below wA.heap.size wA wr) (fun _ s _=>F.blocks.length-(intOf s).toNat)
  case atStart=>exact⟨0,rfl,rfl,Nz _,ho1,hb1⟩
  case round=>as_aux_lemma=>
   clear ho1 hb1;obtain⟨i,rfl,rfl,hi,ho,hb⟩:=hrel
   by_cases hlt:i<F.blocks.length
   · have hcell:=ho.cellAt i ZO
     have hfz:=ho.frozenAt i;have hgl:=(ho.lt _ rfl).2;have hct9:=(hb.cell (p:=⟨gt,i,none⟩) hgt).trans (hct i hlt);have hgt9:=Nt hgt hb.size;have hnp:=numP_le (F:=F) i;have hne:gt≠wA.heap.size:=by omega
     have hce:((numL F i).map (Value.int .i64))[i]?=some (.int .i64 0):=by rw[List.getElem?_map,ith_get (by rw[numL_len];exact hlt),numL_at hlt,if_neg (Nat.lt_irrefl _)];rfl
     rw[hce]at hcell;have HCT:=Lh hct;clear hct hce;cases hth:thB F i
     · rw[hth]at hct9
       have HE:=Lh (show((numL F i).map (Value.int .i64)).set i (.int .i64 (-1))=(numL F (i+1)).map (Value.int .i64) by rw[← numL_set,numN_no hth,List.map_set]);have HNP:=Lh (numP_no hth);clear hth;go_wp2;go_roundw
       case rel=>exact⟨i+1,by rw[HNP.out],ZN,hlt,by rw[← HE.out];exact(ho.stored i _).1,hb.setCell (Nr _) _⟩
       case measure=>simp[intOf];omega
     · rw[hth]at hct9
       have HE:=Lh (show(((numL F i).map (Value.int .i64)).set i (.int .i64 (-1))).set i (.int .i64 (numP F i))=(numL F (i+1)).map (Value.int .i64) by rw[List.set_set,← numL_set,numN_yes hth,List.map_set]);have HNP:=Lh (numP_yes hth);clear hth;go_wp2;go_roundw
       case rel=>exact⟨i+1,by rw[HNP.out];go_num,ZN,hlt,by rw[← HE.out];exact((ho.stored i _).1.stored i _).1,(hb.setCell (Nr _) _).setCell (Nr _) _⟩
       case measure=>simp[intOf];omega
   · obtain rfl:i=F.blocks.length:=by omega
     have hnr:=(Rd.of_own ho).2.2;have hgn:=(ho.lt _ rfl).2;have hPR:=hPT.below hb;have hBr:Below w3.heap.size w3 wr:=HB5.out.trans (hb.mono HB5.out.size);have hWr:Below W.heap.size W wr:=hW3.trans (hBr.mono hW3.size);have HB0:=Lh (show Below w.heap.size w wr from hb3.trans (hBr.mono hb3.size));obtain⟨wN,rfl⟩:∃wN:World,wN=wr:=⟨_,rfl⟩;have y0:=x0.below hBr x0.lt;have y1:=x1.below hBr x1.lt;have q0:=y0.cell 0;have q1:=y0.cell 1;have q2:=y0.cell 2;have ql:=y0.lt;simp at q0 q1 q2;have hN2:w.heap.size+2≤wN.heap.size:=by have:=hBr.size;omega
     clear hi hlt ho hb hct hgt hPT
     go_upto_region 14 with(go_at_call 42;refine(HCP.out _ hWr).mono ?_;rintro e w6 ⟨v0,v1,vb0,ps0,rfl,hV6,hI6,-,hR6,-,hb6⟩;obtain⟨Av,cv,rfl⟩:=hV6.form;obtain⟨Ai,ci,rfl⟩:=own_form hI6;obtain⟨Ab0,cb0,rfl⟩:=hR6.form;clear hR6)
     clear q0 q1 q2 ql
     go_upto_region 15 with fail
     have hs6:=hb6.size;obtain⟨wB,hwB⟩:∃wB:World,wB=w6.alloc (.cells #[.slice Av F.vars.length cv,.slice Ai F.params.length ci,.slice none 0 0] 26):=⟨_,rfl⟩;have hb66:Below w6.heap.size w6 wB:=by rw[hwB];exact(Br _ _).alloc (Nr _) _
     have hbY:BoxAt wB w6.heap.size #[.slice Av F.vars.length cv,.slice Ai F.params.length ci,.slice none 0 0] 26:=by rw[hwB];exact BoxAt.new _ _ _
     rw[← hwB];clear hwB;have hBB:Below wN.heap.size wN wB:=hb6.trans (hb66.mono hs6);have hWB:=hWr.trans (hBB.mono hWr.size);have z1:=y0.below hBB y0.lt;have q0:=z1.cell 0;have q1:=z1.cell 1;have q2:=z1.cell 2;have ql:=z1.lt;simp at q0 q1 q2;have hfd:∀(A B C:Option Addr) (a b c d e f:Nat) (w:World),(Instr.field 26 (.agg #[.slice A a b,.slice B c d,.slice C e f]) 2).run Tryz.prog w=.ok (.slice C e f) w:=fun _ _ _ _ _ _ _ _ _ _=>by kernel_rfl
     go_wp2_with(go_at_call 42;refine(HCP.out _ hWB).mono ?_;rintro e w7 ⟨v2,v3,vb,ps,rfl,hV7,hI7,hps,hR7,hpw,hb7⟩;obtain⟨A2',c2',rfl⟩:=hV7.form;obtain⟨A3',c3',rfl⟩:=own_form hI7;obtain⟨Ab,cb,rfl⟩:=hR7.form;clear hV7 hI7);clear hfd;have hb67:Below w6.heap.size w6 w7:=hb66.trans (hb7.mono hb66.size);have hB7:Below wN.heap.size wN w7:=hBB.trans (hb7.mono hBB.size);have hbZ:BoxAt w7 w6.heap.size #[.slice Av F.vars.length cv,.slice Ai F.params.length ci,.slice none 0 0] 26:=by
      exact hbY.below hb7 hbY.lt
     have hel:∀j p,0≤j→ps[j]?=some p→RRow w7 wN.heap.size 64 3 (CPh w7) p.2.1 p.1.phis∧RRow w7 wN.heap.size 67 4 (CIn w7) p.2.2 p.1.insts:=fun j p _ hp=>by
      obtain⟨cs,hcs⟩:=hR7.all_ p (List.mem_of_getElem? hp);exact⟨hcs.2.2.1.rebase hBB.size,hcs.2.2.2.rebase hBB.size⟩
     have hPI0:PrI F wN w7 w6.heap.size (.slice Av F.vars.length cv) (.slice Ai F.params.length ci) (.slice Ab ps.length cb) ps (prBlks F 0) 0 (.slice none 0 0) []:=
      ⟨rfl,(fun q hq=>by cases hq),hbZ,hV6.move hb67 (fun _ _ h=>h),own_below hI6 hb67,RRow.nil,(hR7.turn (fun _ _=>rfl) (fun _ _ h=>⟨h.1,h.2.1⟩)).rebase hBB.size,hel,hB7⟩
     have HPS:=Lh hps;have HPW:=Lh hpw;have HPLEN:=Lh (show ps.length=F.blocks.length by have:=congrArg List.length hps;simpa using this);have hpl:ps.length≤64:=by rw[HPLEN.out];exact n2
     obtain⟨Ap',cp',gt',e1,e2,hRp,hgt,hct⟩:=id hPR;cases e1;cases e2;have HWB:=Lh hWr;have hgb7:∀k',(Value.slice Ab ps.length cb).ownBlock=some k'→k'<w7.heap.size:=fun k' e=>(hR7.lt e).2
     have hs67:wN.heap.size≤w6.heap.size:=hs6;clear hV6 hI6 hR7 hps hpw hb66 hb67 hB7 hbZ hbY hBB hWB z1 q0 q1 q2 ql hb7 hb6 hPR hs6 hel
     go_loopw[54] (fun s wr=>∃(i:Nat) (vq:Value) (qs:List (PBlock×Value×Value)),s=.int .i64 i∧i≤ps.length∧PrI F wN wr w6.heap.size (.slice Av F.vars.length cv) (.slice Ai F.params.length ci) (.slice Ab ps.length cb) ps (prBlks F i) i vq qs∧(∀k',vq.ownBlock=some k'→w7.heap.size≤k')∧w7.heap.size≤wr.heap.size) (fun s _=>ps.length-(intOf s).toNat)
     case atStart=>exact⟨0,_,[],rfl,Nz _,hPI0,(fun k' e=>by cases e),Nr _⟩
     case round=>as_aux_lemma=>
      clear hPI0;obtain⟨i,vq,qs,rfl,hi,hP,hvq7,hs7⟩:=hrel;have hbN:=hP.bel;obtain⟨Aq,cq,rfl⟩:=hP.hq.form
      by_cases hlt:i<ps.length
      · obtain⟨gb,cap,cs,hvs,hcap,hgb0,hgb1,hfb,hcs,hcells,hcb⟩:=hP.hp.cells hlt
        cases hvs;have hpi:ps[i]?=some ps[i]:=List.getElem?_eq_getElem hlt;have hpe:ps[i].1=F.blk i:=by
         have h1:=congrArg (fun l:List PBlock=>l[i]?) HPS.out;simp only[List.getElem?_map,hpi,Option.map_some]at h1;rw[PFunc.blk_get (by rw[← HPLEN.out];exact hlt)]at h1;exact Option.some.inj h1
        generalize hpp:ps[i]=p at *;obtain⟨pb,vx,vy⟩:=p;obtain rfl:pb=F.blk i:=hpe;obtain⟨hph,hin⟩:=hP.el i _ (Nr _) hpi;obtain⟨Ax,cx,hvx⟩:=hph.form;obtain⟨Ay,cy,hvy⟩:=hin.form;replace hvx:vx=.slice Ax (F.blk i).phis.length cx:=hvx;replace hvy:vy=.slice Ay (F.blk i).insts.length cy:=hvy;subst hvx hvy;obtain⟨rfl,hnz⟩:=hcb;have k0:=hcells 0 _ rfl;rw[Nat.add_zero]at k0;have k1:=hcells 1 _ rfl;have k2:=hcells 2 _ rfl;have k3:=hcells 3 _ rfl;have k4:=hcells 4 _ rfl;have k5:=hcells 5 _ rfl;have k6:=hcells 6 _ rfl;have hth9:=(hbN.cell (p:=⟨gt,i,none⟩) hgt).trans (hct i (by rw[← HPLEN.out];exact hlt));have hgt9:=Nt hgt hbN.size;have hib:i<F.blocks.length:=by rw[← HPLEN.out];exact hlt
        have HCT:=Lh hct;clear hct hcells hpp hcs;cases hth:thB F i
        · rw[hth]at hth9
          have HSK:=Lh ((hP.skip hth).below ((Br wr.heap.size wr).alloc (Nr _) (.cells #[.string (F.blk i).name,.slice Ax (F.blk i).phis.length cx,.slice Ay (F.blk i).insts.length cy,.int .i64 (F.blk i).term.kind,.int .i64 (F.blk i).term.var,.int .i64 (F.blk i).term.t0,.int .i64 (F.blk i).term.t1] 62)));clear hth hP hph hin;go_wp2_with fail;go_roundw
          case rel=>exact⟨i+1,_,qs,ZN,hlt,HSK.out,hvq7,ZX⟩
          case measure=>simp[intOf];omega
        · rw[hth]at hth9
          have HTH:=Lh hth;clear hth;obtain⟨wo,rfl⟩:∃wo:World,wo=wr:=⟨_,rfl⟩;obtain⟨wq,hwq⟩:∃wq:World,wq=wo.alloc (.cells #[.string (F.blk i).name,.slice Ax (F.blk i).phis.length cx,.slice Ay (F.blk i).insts.length cy,.int .i64 (F.blk i).term.kind,.int .i64 (F.blk i).term.var,.int .i64 (F.blk i).term.t0,.int .i64 (F.blk i).term.t1] 62):=⟨_,rfl⟩;have hbq:Below wo.heap.size wo wq:=by rw[hwq];exact(Br _ _).alloc (Nr _) _
          have hPq:=hP.below hbq;have hxb:BoxAt wq wo.heap.size #[.string (F.blk i).name,.slice Ax (F.blk i).phis.length cx,.slice Ay (F.blk i).insts.length cy,.int .i64 (F.blk i).term.kind,.int .i64 (F.blk i).term.var,.int .i64 (F.blk i).term.t0,.int .i64 (F.blk i).term.t1] 62:=by rw[hwq];exact BoxAt.new _ _ _
          have hv1:∀k,(Value.slice Aq qs.length cq).ownBlock=some k→k≠wo.heap.size:=fun k e=>Nat.ne_of_lt (hP.hq.lt e).2
          have hv2:∀k,(Value.slice (some ⟨gb,0,none⟩) ps.length cb).ownBlock=some k→k≠wo.heap.size:=fun k e=>Nat.ne_of_lt (hP.hp.lt e).2
          have hv3:∀k,(Value.slice Ax (F.blk i).phis.length cx).ownBlock=some k→k<wo.heap.size:=fun k e=>(hph.lt e).2
          have h69:w6.heap.size≠wo.heap.size:=Nat.ne_of_lt hP.box.lt;have hwN:wN.heap.size≤wo.heap.size:=hbN.size;clear hph hin hP;go_wp2_with fail;rw[← hwq];clear hwq k0 k1 k2 k3 k4 k5 k6 hth9;have HPQ:=Lh hPq
          go_loopw[67] (fun s w2=>∃k:Nat,s=.int .i64 k∧k≤(F.blk i).phis.length∧RRow w2 wN.heap.size 64 3 (CPh w2) (.slice Ax (F.blk i).phis.length cx) (mixP F i k (F.blk i).phis)∧Kp (fun b=>(Value.slice Ax (F.blk i).phis.length cx).ownBlock≠some b) wq w2) (fun s _=>(F.blk i).phis.length-(intOf s).toNat)
          case atStart=>exact⟨0,rfl,Nz _,(hPq.el i _ (Nr _) hpi).1,Kp.refl⟩
          case round=>as_aux_lemma=>
           clear hPq;obtain⟨k,rfl,hk,hR,hK⟩:=hrel;have hxw:BoxAt wr wo.heap.size #[.string (F.blk i).name,.slice Ax (F.blk i).phis.length cx,.slice Ay (F.blk i).insts.length cy,.int .i64 (F.blk i).term.kind,.int .i64 (F.blk i).term.var,.int .i64 (F.blk i).term.t0,.int .i64 (F.blk i).term.t1] 62:=(hK.blk wo.heap.size (fun e=>by have:=hv3 _ e;omega) hxb.lt).trans hxb;have hNr:Below wN.heap.size wN wr:=HPQ.out.bel.trans (hK.to_below (fun b hb e=>by have:=(hR.lt e).1;omega) HPQ.out.bel.size);have b1:=hxw.cell 1;have bl:=hxw.lt;simp at b1
           by_cases hkl:k<(F.blk i).phis.length
           ·
            obtain⟨gp,capp,csp,hvp,hcp1,hgp0,hgp1,hfp,hcsl,hcc,hcC⟩:=hR.cells (i:=k) (by rw[mixP_len];exact hkl);rw[mixP_len]at hvp;cases hvp;have hmx:(mixP F i k (F.blk i).phis)[k]'(by rw[mixP_len];exact hkl)=(F.blk i).phi k:=(List.getElem?_eq_some_iff.1 (mixP_at hkl)).2;rw[hmx]at hcC;have hset:=mixP_set (F:=F) (i:=i) hkl;replace hset:(mixP F i k (F.blk i).phis).set k (prPhi F i ((F.blk i).phi k))=mixP F i (k+1) (F.blk i).phis:=hset;have hpls:=(HN.out.parts _ (mem_of_blk hib)).1;have hmem:=mem_of_Phi hkl;have hpf:=phi_facts HT.out hib hmem;have hpb:=HN.out.pairs _ (mem_of_blk hib) _ hmem;obtain⟨va,vf,rfl,hDa,hDf⟩:=hcC;obtain⟨A5,c5,rfl,l5,k5,r5⟩:=hDa.rd (B:=wr.heap.size) (fun b _ hb=>hb.lt);obtain⟨A6,c6,rfl,l6,k6,r6⟩:=hDf.rd (B:=wr.heap.size) (fun b _ hb=>hb.lt);have pp0:=hcc 0 _ rfl;rw[Nat.add_zero]at pp0;have pp1:=hcc 1 _ rfl;have pp2:=hcc 2 _ rfl;obtain⟨bf,of,A8,c8,rfl,hbf,hcf,l8,k8,r8⟩:=RowRd hRp hNr (i:=i) (by rw[show(predsOf F).length=F.blocks.length from HPL.out];exact hib);have hfsl:((predsOf F).getD i []).length≤64:=by
             have h1:(predsOf F).getD i []=ints (predRow F i F.blocks.length):=predsF_row HT.out hib _ (Nr _);rw[h1];have h2:∀m,(predRow F i m).length≤m:=fun m=>by
              induction m with
              |zero=>simp[predRow]
              |succ m ih=>
               rw[predRow];split
               · exact ZX
               · exact ZO
             have:=h2 F.blocks.length;simp[ints];omega
            have HG:=Lh (fun(w':World) (hb:Below wr.heap.size wr w')=>gphi_calls (c6:=c5) (c7:=c6) (cf:=c8) (cn:=F.blocks.length) r5 r6 (r8.move hNr) (hnr.move hNr) hb hpf.2.1 hpb.2 ZO
             (fun j hj=>⟨(hpf.2.2.2 j hj).1,by rw[numL_len];have:=hpf.2.2.2 j hj;omega,keep_eq HT.out hib (hpf.2.2.2 j hj).1 (hpf.2.2.2 j hj).2 (by rw[numL_at (by have:=hpf.2.2.2 j hj;omega),if_pos (by have:=hpf.2.2.2 j hj;omega)];rfl)⟩)
             (fun j hj hkp=>by rw[numL_at (by have:=hpf.2.2.2 j hj;omega),if_pos (by have:=hpf.2.2.2 j hj;omega),numN_yes (keepF_iff.1 hkp).2]))
            rw[numL_len]at HG;have HPF:=Lh hpf;have HPB:=Lh hpb;clear hpf hpb hmx hmem hDa hDf r5 r6 l5 l6;generalize hph:(F.blk i).phi k=ph at *;have HPH:=Lh hph;clear hph;generalize (predsOf F).getD i []=fs at *;go_wp2_with fail;obtain⟨S0,hS0⟩:∃S0:World→Prop,S0=fun w'=>w'.cell? ⟨wo.heap.size,1,none⟩=some (.slice (some ⟨gp,0,none⟩) (F.blk i).phis.length cx)∧w'.cell? ⟨wr.heap.size,0,none⟩=some (.int .i64 ph.dst)∧w'.cell? ⟨wr.heap.size,1,none⟩=some (.slice A5 ph.args.length c5)∧w'.cell? ⟨wr.heap.size,2,none⟩=some (.slice A6 ph.froms.length c6)∧w'.cell? ⟨bf,of+i,none⟩=some (.slice A8 fs.length c8)∧Below wr.heap.size wr w'∧wo.heap.size<w'.heap.size∧wr.heap.size<w'.heap.size∧bf<w'.heap.size:=⟨_,rfl⟩
            have HS0:=Lh hS0;clear hS0;have k0:=fun xw=>(WS.at HS0 xw).1
            have k1:=fun xw=>(WS.at HS0 xw).2.1
            have k2:=fun xw=>(WS.at HS0 xw).2.2.1
            have k3:=fun xw=>(WS.at HS0 xw).2.2.2.1
            have k4:=fun xw=>(WS.at HS0 xw).2.2.2.2.1
            have k5:=fun xw=>(WS.at HS0 xw).2.2.2.2.2.1
            have k6:=fun xw=>(WS.at HS0 xw).2.2.2.2.2.2.1
            have k7:=fun xw=>(WS.at HS0 xw).2.2.2.2.2.2.2.1
            have k8:=fun xw=>(WS.at HS0 xw).2.2.2.2.2.2.2.2
            refine wp_region_treeE (S:=S0) [11] ZK ?hS (fun hSc hcl=>?_)
            case hS=>
             rw[HS0.out];exact⟨ZI,ZI,ZI,ZI,ZI,BL,ZJ,ZJ,ZJ⟩
            have hne0:Nonempty (WS S0):=⟨⟨_,hSc⟩⟩;have hneT:Nonempty (WS (fun _=>True)):=match hne0 with|⟨x⟩=>⟨⟨x.w,trivial⟩⟩
            refine wpTreeE_run [(0,0),(1,0),(2,0),(3,0),(4,0),(5,0),(6,0),(7,0),(8,0),(9,1),(10,0)] 1 rfl ZK (fun _ _ _ _ _ h=>h) hSc hcl ?_
            all_goals
             (try simp only[List.map_cons,List.map_nil,Ld,Le])
             repeat
              first
              |((with_reducible refine wpSch3_lk ?_ ?_);exact rfl;dsimp only;go_big_quiet_step (fail);(try with_reducible refine wpQuiet_nil ?_);(try dsimp only))
              |((with_reducible refine wpSch3_fr ?_ ?_);exact rfl;dsimp only;go_big_quiet_step (fail);(try with_reducible refine wpQuiet_nil ?_);(try dsimp only))
              |((with_reducible refine wpSch3_at ?_ ?_ (fun K hK=>?_))
                exact rfl;exact rfl;dsimp only;go_simp;(try go_wp2_with(go_at_call 67;refine(HG.out _ BL).mono ?_;rintro e w9 ⟨v9,v10,rfl,hT9,hb9⟩;obtain⟨A9,c9,hv9⟩:=own_form hT9.2.1;obtain⟨A10,c10,hv10⟩:=own_form hT9.1;subst hv9 hv10;obtain⟨hc9,hf9⟩:=bcell hb9;have hz9:=hb9.size;(try simp at hz9)));refine hK.out _ _ ?hS (fun hSc=>?_)
                case hS=>
                 first
                 |exact hSc
                 |(rw[HS0.out]at hSc ⊢;obtain⟨p0,p1,p2,p3,p4,p5,p6,p7,p8⟩:=hSc;exact⟨ZC0,ZC1,ZC2,ZC3,ZC4,(by first|exact p5.trans (hb9.mono (by have:=p5.size;first|omega|(simp at this ⊢;omega)))|exact BL),ZT6,ZT7,ZT8⟩)
                clear hK K)
             (try(refine wpSch3_nil ?_;intro hSc hcl))
            all_goals
             refine wpTreeE_end [11] rfl ZK ?_;simp only[List.map_cons,List.map_nil,Ld,Le];rw[HS0.out]at hSc;obtain⟨p0,p1,p2,p3,p4,p5,p6,p7,p8⟩:=hSc;clear hne0 hneT hcl HS0 k0 k1 k2 k3 k4 k5 k6 k7 k8;have s0:=(p5.cell (p:=⟨gp,k*3,none⟩) hgp1).trans pp0;have s1:=(p5.cell (p:=⟨gp,k*3+1,none⟩) hgp1).trans pp1;have s2:=(p5.cell (p:=⟨gp,k*3+2,none⟩) hgp1).trans pp2;have hgl9:=Nt hgp1 p5.size;have HR9:=Lh (hR.move p5 (fun _ _ h=>CPh.kt (KT.of_below (ts:=[3]) p5) ZS h));obtain⟨cells9,hO9⟩:=HR9.out.own;rw[mixP_len]at hO9;have t0:=hO9.frozenAt (k*3);have t1:=hO9.frozenAt (k*3+1);have t2:=hO9.frozenAt (k*3+2);obtain⟨cur,hbox9⟩:=own_box hO9;have HP5:=Lh p5;have HK9:=Lh hK;have HT9:=Lh hT9;have HSET:=Lh hset;have ht9:w9.there gp (k*3) ([.int .i64 ph.dst,.slice A9 (prPhi F i ph).args.length c9,.slice A10 (prPhi F i ph).froms.length c10]:List Value).toArray.size:=fun j hj=>by(have hj3:j<3:=hj);rcases(show j=0∨j=1∨j=2 from ZO)with rfl|rfl|rfl;(exact⟨by rw[Nat.add_zero,s0];rfl,t0⟩);(exact⟨by rw[s1];rfl,t1⟩);(exact⟨by rw[s2];rfl,t2⟩)
             have hinP:(Tryz.prog.info? 64).map (·.size)=some ([.int .i64 ph.dst,.slice A9 (prPhi F i ph).args.length c9,.slice A10 (prPhi F i ph).froms.length c10]:List Value).toArray.size:=by kernel_rfl
             have h1c:([.int .i64 ph.dst,.slice A9 (prPhi F i ph).args.length c9,.slice A10 (prPhi F i ph).froms.length c10]:List Value).toArray.all (·.oneCell')=true:=by simp[Value.oneCell']
             clear p0 p1 p2 p3 p4 p5 p6 p7 p8 hR hK hO9 hT9 hset hc9 hf9 hb9 hcc hcsl pp0 pp1 pp2 b1 bl hcf hSc hcl s0 s1 s2 t0 t1 t2;go_wp2_with(refine wpList_store_mid rfl 64 _ _ rfl gp (k*3) ([.int .i64 ph.dst,.slice A9 (prPhi F i ph).args.length c9,.slice A10 (prPhi F i ph).froms.length c10]:List Value).toArray rfl rfl ht9 hinP h1c ?_);clear ht9 hinP h1c;go_roundw
             (case rel=>have hla:=prA_le (F:=F) (i:=i) (x:=ph) ph.froms.length;have hln:=prN_le (F:=F) (i:=i) (x:=ph) ph.froms.length;have hfl:=HPB.out.2;have q5:=phi_put (x':=prPhi F i ph) HR9.out (by rw[mixP_len];exact hkl) HT9.out (by show(prA F i ph ph.froms.length).length≤_;omega) (by show(prN F i ph ph.froms.length).length≤_;omega);rw[HSET.out]at q5;exact⟨k+1,ZN,hkl,q5,kp_put (HK9.out.trans (Kp.below HP5.out (fun b hb _=>hb)))⟩)
             (case measure=>simp[intOf];omega)
           · obtain rfl:k=(F.blk i).phis.length:=by omega
             rw[mixP_end]at hR;have hpx:=(HPQ.out.el i _ (Nr _) hpi).1;have hix:=(HPQ.out.el i _ (Nr _) hpi).2;have hPp:=HPQ.out.phis hpi HPW.out hK hpx;obtain⟨cellsx,hOx⟩:=hpx.own;have hin:RRow wr wN.heap.size 67 4 (CIn wr) (.slice Ay (F.blk i).insts.length cy) (F.blk i).insts:=hix.kt (KT.of_kp (ts:=[3,67]) hK hOx ZS) ZS (fun _ _ h=>CIn.kt (KT.of_kp (ts:=[3,67]) hK hOx ZS) ZS h);have b3:=hxw.cell 3;have b4:=hxw.cell 4;have b5:=hxw.cell 5;have b6:=hxw.cell 6;simp at b3 b4 b5 b6;have hle:=endsOf_len (F.blk i).term;have hse:=hK.size;clear hk hkl b1 hpx hix hOx hK HPQ;go_wp2_with(go_at_call 68;refine(endsN_calls (F.blk i).term).mono ?_;rintro e we ⟨⟨A9,c9,rfl,l9,k9,r9,hb9⟩,hnew⟩);have hPe:=hPp.below hb9;have hxe:=hxw.below hb9 bl;have hine:=hin.move hb9 (fun _ _ h=>CIn.kt (KT.of_below (ts:=[3]) hb9) ZS h);have hRe:=hR.move hb9 (fun _ _ h=>CPh.kt (KT.of_below (ts:=[3]) hb9) ZS h);have hnw:∀b off,A9=some ⟨b,off,none⟩→b≠wo.heap.size:=fun b off e=>by have:=hnew _ _ _ rfl b off e;omega
             have hsw:w7.heap.size≤we.heap.size:=by have:=hb9.size;have:=hbq.size;omega
             clear b3 b4 b5 b6 hPp hxw hin hR hnew hb9 hNr bl hse
             go_loopw[88] (fun s w2=>∃k:Nat,s=.int .i64 k∧k≤(endsOf (F.blk i).term).length∧BoxAt w2 wo.heap.size #[.string (F.blk i).name,.slice Ax (F.blk i).phis.length cx,.slice Ay (F.blk i).insts.length cy,.int .i64 (F.blk i).term.kind,.int .i64 (F.blk i).term.var,.int .i64 (trK F (F.blk i).term k).t0,.int .i64 (trK F (F.blk i).term k).t1] 62∧Kp (fun b=>b≠wo.heap.size) we w2) (fun s _=>(endsOf (F.blk i).term).length-(intOf s).toNat)
             case atStart=>exact⟨0,rfl,Nz _,hxe,Kp.refl⟩
             case round=>as_aux_lemma=>
              obtain⟨k,rfl,hk,hbx,hK2⟩:=hrel;have hNr:Below wN.heap.size wN wr:=hPe.bel.trans (hK2.to_below (fun b hb=>ZO) hPe.bel.size);have hbl:=hbx.lt
              by_cases hkl:k<(endsOf (F.blk i).term).length
              · obtain⟨be,oe,hAe,hbe,hce⟩:=r9 k _ (ith_get hkl)
                subst hAe;have hce2:wr.cell? ⟨be,oe+k*1,none⟩=some (.int .i64 (ith (endsOf (F.blk i).term) k)):=(hK2.cell (hnw _ _ rfl) hbe).trans hce;rw[Nat.mul_one]at hce2;obtain⟨e0,e1,e2⟩:=thB_ends HT.out HTH.out (List.mem_of_getElem? (ith_get hkl));obtain⟨f,hfe⟩:∃f:Nat,ith (endsOf (F.blk i).term) k=f:=⟨(ith (endsOf (F.blk i).term) k).toNat,ZO⟩;have HFE:=Lh hfe;rw[hfe]at hce2 e0 e1 e2;rw[Int.toNat_natCast]at e2;have hfn:f<F.blocks.length:=by omega
                obtain⟨bn,on,e3,hbn,hcn⟩:=hnr.int hNr (i:=f) (by rw[numL_len];exact hfn);cases e3;rw[numL_at hfn,if_pos hfn,numN_yes e2,Nat.zero_add]at hcn;have hbe9:=Nt hbe hK2.size;have hfzk:=hbx.frozen (5+k);have hk2:k=0∨k=1:=by omega
                obtain⟨ck,hcu⟩:∃ck,wr.cell? ⟨wo.heap.size,5+k,none⟩=some (.int .i64 ck):=by
                 rcases hk2 with rfl|rfl
                 · exact⟨_,hbx.cell 5⟩
                 · exact⟨_,hbx.cell 6⟩
                have hki:(k:Int)<2:=by omega
                have hset:BoxAt (wr.setCell ⟨wo.heap.size,5+k,none⟩ (.int .i64 (numP F f))) wo.heap.size #[.string (F.blk i).name,.slice Ax (F.blk i).phis.length cx,.slice Ay (F.blk i).insts.length cy,.int .i64 (F.blk i).term.kind,.int .i64 (F.blk i).term.var,.int .i64 (trK F (F.blk i).term (k+1)).t0,.int .i64 (trK F (F.blk i).term (k+1)).t1] 62:=by
                 have h1:=hbx.set (5+k) (.int .i64 (numP F f));rcases hk2 with rfl|rfl
                 · have e4:(trK F (F.blk i).term 1).t0=(numP F f:Int):=by show(numP F (ith (endsOf (F.blk i).term) 0).toNat:Int)=_;rw[hfe];simp
                   rw[e4];exact h1
                 · have e4:(trK F (F.blk i).term 2).t1=(numP F f:Int):=by show(numP F (ith (endsOf (F.blk i).term) 1).toNat:Int)=_;rw[hfe];simp
                   rw[e4];exact h1
                have HSET:=Lh hset;have HK2:=Lh hK2;clear hfe hce e0 e1 e2 r9 hk2 hset hK2 hbx;go_wp2_with fail;go_roundw
                case rel=>exact⟨k+1,ZN,hkl,HSET.out,HK2.out.setCell (p:=⟨wo.heap.size,5+k,none⟩) (fun h=>h rfl) _⟩
                case measure=>simp[intOf];omega
              · obtain rfl:k=(endsOf (F.blk i).term).length:=by omega
                have hWi:Below W.heap.size W wr:=HWB.out.trans (hNr.mono HWB.out.size);have y9:=y0.below hNr ZO;have q2:=y9.cell 2;have ql:=y9.lt;simp at q2;obtain⟨bb,off,A3,c3,A4,c4,rfl,hbb,-,-,-,-,-,-,hy5,hy6,-,-,-,-,-,-⟩:=r2.blk hWi hib;have b3:=hbx.cell 3;have b5:=hbx.cell 5;have b6:=hbx.cell 6;have bf6:=hbx.frozen 6;simp at b3 b5 b6;have hibI:(i:Int)<(F.blocks.length:Int):=by omega
                clear hk hkl
                by_cases h1:(F.blk i).term.kind=1
                · by_cases h2:(F.blk i).term.t0=(F.blk i).term.t1
                  · have h3:=trK_twin (F:=F) h1 h2
                    have e0:(prTerm F (F.blk i).term).t0=(trK F (F.blk i).term (endsOf (F.blk i).term).length).t0:=by rw[← h3]
                    have e1:(prTerm F (F.blk i).term).t1=(trK F (F.blk i).term (endsOf (F.blk i).term).length).t0:=by rw[← h3]
                    clear h3;generalize (trK F (F.blk i).term (endsOf (F.blk i).term).length).t0=ta at *;generalize (trK F (F.blk i).term (endsOf (F.blk i).term).length).t1=tb at *;have E0:=Lh e0;have E1:=Lh e1;rw[h1]at b3;rw[h2]at hy5;have HH1:=Lh h1;clear h1 h2 e0 e1
                    go_upto_region 29 with fail
                    obtain⟨S0,hS0⟩:∃S0:World→Prop,S0=fun w'=>w'.cell? ⟨wo.heap.size,3,none⟩=some (.int .i64 1)∧w'.cell? ⟨w.heap.size,2,none⟩=some (.slice (some ⟨bb,off,none⟩) F.blocks.length c2)∧w'.cell? ⟨bb,off+i*7+5,none⟩=some (.int .i64 (F.blk i).term.t1)∧w'.cell? ⟨bb,off+i*7+6,none⟩=some (.int .i64 (F.blk i).term.t1)∧wo.heap.size<w'.heap.size∧w.heap.size<w'.heap.size∧bb<w'.heap.size:=⟨_,rfl⟩
                    have HS0:=Lh hS0;clear hS0;have k0:=fun xw=>(WS.at HS0 xw).1
                    have k1:=fun xw=>(WS.at HS0 xw).2.1
                    have k2:=fun xw=>(WS.at HS0 xw).2.2.1
                    have k3:=fun xw=>(WS.at HS0 xw).2.2.2.1
                    have k4:=fun xw=>(WS.at HS0 xw).2.2.2.2.1
                    have k5:=fun xw=>(WS.at HS0 xw).2.2.2.2.2.1
                    have k6:=fun xw=>(WS.at HS0 xw).2.2.2.2.2.2
                    refine wp_region_sched (S:=S0) [0,1,2,3,4,5,6,7,8,9,10,11,12,13,14,15,16,17,18,19,20,21,22] ZK ZK (fun _ _ _ _ _ h=>h) ?hS (fun hSc=>?_)
                    case hS=>
                     rw[HS0.out];exact⟨ZI,ZI,ZI,ZI,ZJ,ZJ,ZJ⟩
                    have hne0:Nonempty (WS S0):=⟨⟨_,hSc⟩⟩;simp only[List.map_cons,List.map_nil,Ld,Le]
                    repeat
                     first
                     |((with_reducible refine wpSch_lk ?_ ?_);exact rfl;go_big_quiet_step (fail);(try with_reducible refine wpQuiet_nil ?_);(try dsimp only))
                    refine wpSch_nil ?_;rw[HS0.out]at hSc;obtain⟨p0,p1,p2,p3,p4,p5,p6⟩:=hSc;clear hne0 HS0 k0 k1 k2 k3 k4 k5 k6;obtain⟨wd,hwd⟩:∃wd:World,wd=wr.drew:=⟨_,rfl⟩;rw[← hwd];have hbx2:BoxAt wd wo.heap.size #[.string (F.blk i).name,.slice Ax (F.blk i).phis.length cx,.slice Ay (F.blk i).insts.length cy,.int .i64 (F.blk i).term.kind,.int .i64 (F.blk i).term.var,.int .i64 ta,.int .i64 tb] 62:=by rw[hwd];exact hbx.drew
                    have hKd:Kp (fun b=>b≠wo.heap.size) we wd:=by rw[hwd];exact hK2.drew
                    clear hwd b3 b5 b6 bf6 hy5 hy6 q2 hbx hK2 y9 p0 p1 p2 p3 p4 p5 p6;have b5:=hbx2.cell 5;have b6:=hbx2.cell 6;have bf6:=hbx2.frozen 6;have bl6:=hbx2.lt;simp at b5 b6;have hbz:BoxAt (wd.setCell ⟨wo.heap.size,6,none⟩ (.int .i64 ta)) wo.heap.size #[.string (F.blk i).name,.slice Ax (F.blk i).phis.length cx,.slice Ay (F.blk i).insts.length cy,.int .i64 (F.blk i).term.kind,.int .i64 (F.blk i).term.var,.int .i64 (prTerm F (F.blk i).term).t0,.int .i64 (prTerm F (F.blk i).term).t1] 62:=by
                     rw[E0.out,E1.out];exact hbx2.put6
                    have hKz:=hKd.setCell (p:=⟨wo.heap.size,6,none⟩) (fun h=>h rfl) (.int .i64 ta);have HBZ:=Lh hbz;have HKZ:=Lh hKz;clear hKd hbz hKz hbx2
                    go_upto_region 31 with fail
                    have hbz:=HBZ.out;have hKz:=HKZ.out;obtain⟨wz,hwz⟩:∃wz:World,wz=wd.setCell ⟨wo.heap.size,6,none⟩ (.int .i64 ta):=⟨_,rfl⟩;rw[← hwz]at hbz hKz ⊢;clear hwz b5 b6 bf6 HBZ HKZ;have hPz:=hPe.kpb hKz hxe hv1 hv2 h69 hwN;obtain⟨cellsq,hOq⟩:=hPz.hq.own;have hto:=KT.of_box hKz hxe;have hRz:=hRe.kt hto ZS (fun _ _ h=>CPh.kt hto ZS h);have hIz:=hine.kt hto ZS (fun _ _ h=>CIn.kt hto ZS h);have hcR:wz.rangeAt wo.heap.size 0 ([.string (F.blk i).name,.slice Ax (F.blk i).phis.length cx,.slice Ay (F.blk i).insts.length cy,.int .i64 (F.blk i).term.kind,.int .i64 (F.blk i).term.var,.int .i64 (prTerm F (F.blk i).term).t0,.int .i64 (prTerm F (F.blk i).term).t1]:List Value):=by
                     have:=World.rangeAt_of_block (w:=wz) (b:=wo.heap.size) hbz 0 7;simpa using this
                    have huB:=Tryz.underlying62;have hinB:(Tryz.prog.info? 62).map (·.size)=some ([.string (F.blk i).name,.slice Ax (F.blk i).phis.length cx,.slice Ay (F.blk i).insts.length cy,.int .i64 (F.blk i).term.kind,.int .i64 (F.blk i).term.var,.int .i64 (prTerm F (F.blk i).term).t0,.int .i64 (prTerm F (F.blk i).term).t1]:List Value).length:=by kernel_rfl
                    have hgo:=hPz.box;have o2:=hgo.cell 2;have ogl:=hgo.lt;have hbzl:=hbz.lt;simp at o2;have hql:qs.length≤64:=by
                     have h1:=congrArg List.length hPz.map;rw[List.length_map,prBlks_len]at h1;have h2:=numP_le (F:=F) i;omega
                    have hvne:∀k,(Value.slice (some ⟨gb,0,none⟩) ps.length cb).ownBlock=some k→(Value.slice Aq qs.length cq).ownBlock≠some k:=fun k e1 e2=>by have h1:=hgb7 k e1;have h2:=hvq7 k e2;omega
                    have hwz:wN.heap.size≤wz.heap.size:=hPz.bel.size;have hsz:w7.heap.size≤wz.heap.size:=by have:=hKz.size;omega
                    have HPZ:=Lh hPz;have HOQ:=Lh hOq;have HRZ:=Lh hRz;have HIZ:=Lh hIz;have HVN:=Lh hvne;have HVQ:=Lh hvq7;clear hPz hRz hIz hvne hto hKz hbz hPe hRe hine hxe hv1 hv2 hv3 hvq7 hgb7 hRp hgt hnr hgn x0 x1 y0 y1 hnw r9 hbN hgt9
                    go_wp2_with(first
                     |(refine wpList_load_mid rfl 62 _ rfl wo.heap.size 0 rfl [.string (F.blk i).name,.slice Ax (F.blk i).phis.length cx,.slice Ay (F.blk i).insts.length cy,.int .i64 (F.blk i).term.kind,.int .i64 (F.blk i).term.var,.int .i64 (prTerm F (F.blk i).term).t0,.int .i64 (prTerm F (F.blk i).term).t1] _ hcR huB rfl hinB ?_)
                     |(refine wpList_one7 rfl _ _ _ rfl Tryz.underlying24 Tryz.info62 rfl ?_)
                     |(at_builtin;refine wpList_appendF _ rfl _ _ 24 rfl wN.heap.size 62 7 96 Tryz.underlying24 Tryz.info62 rfl ZD _ qs.length cellsq rfl hOq _ ZS #[.string (F.blk i).name,.slice Ax (F.blk i).phis.length cx,.slice Ay (F.blk i).insts.length cy,.int .i64 (F.blk i).term.kind,.int .i64 (F.blk i).term.var,.int .i64 (prTerm F (F.blk i).term).t0,.int .i64 (prTerm F (F.blk i).term).t1] rfl rfl (by intro u hu;simp at hu;rcases hu with rfl|rfl|rfl|rfl|rfl|rfl|rfl<;>rfl) ZO ZD ZO ?_
                       intro v' w3 hown3 hg3 hfr3;obtain⟨Ar,cr,hv3⟩:=own_form hown3;subst hv3;have hgo3:=(hgo.alloc (.cells #[.string (F.blk i).name,.slice Ax (F.blk i).phis.length cx,.slice Ay (F.blk i).insts.length cy,.int .i64 (F.blk i).term.kind,.int .i64 (F.blk i).term.var,.int .i64 (prTerm F (F.blk i).term).t0,.int .i64 (prTerm F (F.blk i).term).t1] 62)).grown hg3 (fun e=>own_box_ne hOq hgo ZD e);have t3:=hgo3.cell 2;simp at t3;have t3f:=hgo3.frozen 2
                       have t3l:=hgo3.lt))
                    go_roundw
                    case rel=>
                     have hsn:=HPZ.out.snoc HTH.out hpi HPW.out HOQ.out hown3 hg3 HRZ.out HIZ.out hnz HVN.out hs67;refine⟨i+1,.slice Ar (qs.length+1) cr,qs++[(prBlk F i,.slice Ax (F.blk i).phis.length cx,.slice Ay (F.blk i).insts.length cy)],ZN,hlt,hsn,fun k e=>?_,?_⟩
                     · exact(hfr3 k e).elim (fun h=>HVQ.out k h) (fun h=>ZO)
                     · have:=hg3.size;simp at this ⊢;omega
                    case measure=>simp[intOf];omega
                  · have h3:=trK_other (F:=F) (t:=(F.blk i).term) (fun h=>h2 h.2)
                    rw[h3]at hbx b5 b6;rw[h1]at b3;have hd:((F.blk i).term.t0==(F.blk i).term.t1)=false:=by simpa using h2
                    have HH1:=Lh h1;clear h1 h2 h3
                    go_upto_region 29 with fail
                    obtain⟨S0,hS0⟩:∃S0:World→Prop,S0=fun w'=>w'.cell? ⟨wo.heap.size,3,none⟩=some (.int .i64 1)∧w'.cell? ⟨w.heap.size,2,none⟩=some (.slice (some ⟨bb,off,none⟩) F.blocks.length c2)∧w'.cell? ⟨bb,off+i*7+5,none⟩=some (.int .i64 (F.blk i).term.t0)∧w'.cell? ⟨bb,off+i*7+6,none⟩=some (.int .i64 (F.blk i).term.t1)∧wo.heap.size<w'.heap.size∧w.heap.size<w'.heap.size∧bb<w'.heap.size:=⟨_,rfl⟩
                    have HS0:=Lh hS0;clear hS0;have k0:=fun xw=>(WS.at HS0 xw).1
                    have k1:=fun xw=>(WS.at HS0 xw).2.1
                    have k2:=fun xw=>(WS.at HS0 xw).2.2.1
                    have k3:=fun xw=>(WS.at HS0 xw).2.2.2.1
                    have k4:=fun xw=>(WS.at HS0 xw).2.2.2.2.1
                    have k5:=fun xw=>(WS.at HS0 xw).2.2.2.2.2.1
                    have k6:=fun xw=>(WS.at HS0 xw).2.2.2.2.2.2
                    refine wp_region_sched (S:=S0) [0,1,2,3,4,5,6,7,8,9,10,11,12,13,14,15,16,17,18,19,20,21,22] ZK ZK (fun _ _ _ _ _ h=>h) ?hS (fun hSc=>?_)
                    case hS=>
                     rw[HS0.out];exact⟨ZI,ZI,ZI,ZI,ZJ,ZJ,ZJ⟩
                    have hne0:Nonempty (WS S0):=⟨⟨_,hSc⟩⟩;simp only[List.map_cons,List.map_nil,Ld,Le]
                    repeat
                     first
                     |((with_reducible refine wpSch_lk ?_ ?_);exact rfl;go_big_quiet_step (fail);(try with_reducible refine wpQuiet_nil ?_);(try dsimp only))
                    refine wpSch_nil ?_;rw[HS0.out]at hSc;obtain⟨p0,p1,p2,p3,p4,p5,p6⟩:=hSc;clear hne0 HS0 k0 k1 k2 k3 k4 k5 k6;obtain⟨wz,hwz⟩:∃wz:World,wz=wr.drew:=⟨_,rfl⟩;rw[← hwz];have hbz:BoxAt wz wo.heap.size #[.string (F.blk i).name,.slice Ax (F.blk i).phis.length cx,.slice Ay (F.blk i).insts.length cy,.int .i64 (F.blk i).term.kind,.int .i64 (F.blk i).term.var,.int .i64 (prTerm F (F.blk i).term).t0,.int .i64 (prTerm F (F.blk i).term).t1] 62:=by rw[hwz];exact hbx.drew
                    have hKz:Kp (fun b=>b≠wo.heap.size) we wz:=by rw[hwz];exact hK2.drew
                    clear hwz b3 b5 b6 bf6 hy5 hy6 q2 hbx hK2 y9 hd p0 p1 p2 p3 p4 p5 p6
                    go_upto_region 31 with fail
                    have hPz:=hPe.kpb hKz hxe hv1 hv2 h69 hwN;obtain⟨cellsq,hOq⟩:=hPz.hq.own;have hto:=KT.of_box hKz hxe;have hRz:=hRe.kt hto ZS (fun _ _ h=>CPh.kt hto ZS h);have hIz:=hine.kt hto ZS (fun _ _ h=>CIn.kt hto ZS h);have hcR:wz.rangeAt wo.heap.size 0 ([.string (F.blk i).name,.slice Ax (F.blk i).phis.length cx,.slice Ay (F.blk i).insts.length cy,.int .i64 (F.blk i).term.kind,.int .i64 (F.blk i).term.var,.int .i64 (prTerm F (F.blk i).term).t0,.int .i64 (prTerm F (F.blk i).term).t1]:List Value):=by
                     have:=World.rangeAt_of_block (w:=wz) (b:=wo.heap.size) hbz 0 7;simpa using this
                    have huB:=Tryz.underlying62;have hinB:(Tryz.prog.info? 62).map (·.size)=some ([.string (F.blk i).name,.slice Ax (F.blk i).phis.length cx,.slice Ay (F.blk i).insts.length cy,.int .i64 (F.blk i).term.kind,.int .i64 (F.blk i).term.var,.int .i64 (prTerm F (F.blk i).term).t0,.int .i64 (prTerm F (F.blk i).term).t1]:List Value).length:=by kernel_rfl
                    have hgo:=hPz.box;have o2:=hgo.cell 2;have ogl:=hgo.lt;have hbzl:=hbz.lt;simp at o2;have hql:qs.length≤64:=by
                     have h1:=congrArg List.length hPz.map;rw[List.length_map,prBlks_len]at h1;have h2:=numP_le (F:=F) i;omega
                    have hvne:∀k,(Value.slice (some ⟨gb,0,none⟩) ps.length cb).ownBlock=some k→(Value.slice Aq qs.length cq).ownBlock≠some k:=fun k e1 e2=>by have h1:=hgb7 k e1;have h2:=hvq7 k e2;omega
                    have hwz:wN.heap.size≤wz.heap.size:=hPz.bel.size;have hsz:w7.heap.size≤wz.heap.size:=by have:=hKz.size;omega
                    have HPZ:=Lh hPz;have HOQ:=Lh hOq;have HRZ:=Lh hRz;have HIZ:=Lh hIz;have HVN:=Lh hvne;have HVQ:=Lh hvq7;clear hPz hRz hIz hvne hto hKz hbz hPe hRe hine hxe hv1 hv2 hv3 hvq7 hgb7 hRp hgt hnr hgn x0 x1 y0 y1 hnw r9 hbN hgt9
                    go_wp2_with(first
                     |(refine wpList_load_mid rfl 62 _ rfl wo.heap.size 0 rfl [.string (F.blk i).name,.slice Ax (F.blk i).phis.length cx,.slice Ay (F.blk i).insts.length cy,.int .i64 (F.blk i).term.kind,.int .i64 (F.blk i).term.var,.int .i64 (prTerm F (F.blk i).term).t0,.int .i64 (prTerm F (F.blk i).term).t1] _ hcR huB rfl hinB ?_)
                     |(refine wpList_one7 rfl _ _ _ rfl Tryz.underlying24 Tryz.info62 rfl ?_)
                     |(at_builtin;refine wpList_appendF _ rfl _ _ 24 rfl wN.heap.size 62 7 96 Tryz.underlying24 Tryz.info62 rfl ZD _ qs.length cellsq rfl hOq _ ZS #[.string (F.blk i).name,.slice Ax (F.blk i).phis.length cx,.slice Ay (F.blk i).insts.length cy,.int .i64 (F.blk i).term.kind,.int .i64 (F.blk i).term.var,.int .i64 (prTerm F (F.blk i).term).t0,.int .i64 (prTerm F (F.blk i).term).t1] rfl rfl (by intro u hu;simp at hu;rcases hu with rfl|rfl|rfl|rfl|rfl|rfl|rfl<;>rfl) ZO ZD ZO ?_
                       intro v' w3 hown3 hg3 hfr3;obtain⟨Ar,cr,hv3⟩:=own_form hown3;subst hv3;have hgo3:=(hgo.alloc (.cells #[.string (F.blk i).name,.slice Ax (F.blk i).phis.length cx,.slice Ay (F.blk i).insts.length cy,.int .i64 (F.blk i).term.kind,.int .i64 (F.blk i).term.var,.int .i64 (prTerm F (F.blk i).term).t0,.int .i64 (prTerm F (F.blk i).term).t1] 62)).grown hg3 (fun e=>own_box_ne hOq hgo ZD e);have t3:=hgo3.cell 2;simp at t3;have t3f:=hgo3.frozen 2
                       have t3l:=hgo3.lt))
                    go_roundw
                    case rel=>
                     have hsn:=HPZ.out.snoc HTH.out hpi HPW.out HOQ.out hown3 hg3 HRZ.out HIZ.out hnz HVN.out hs67;refine⟨i+1,.slice Ar (qs.length+1) cr,qs++[(prBlk F i,.slice Ax (F.blk i).phis.length cx,.slice Ay (F.blk i).insts.length cy)],ZN,hlt,hsn,fun k e=>?_,?_⟩
                     · exact(hfr3 k e).elim (fun h=>HVQ.out k h) (fun h=>ZO)
                     · have:=hg3.size;simp at this ⊢;omega
                    case measure=>simp[intOf];omega
                · have h3:=trK_other (F:=F) (t:=(F.blk i).term) (fun h=>h1 h.1)
                  rw[h3]at hbx b5 b6;have hd:((F.blk i).term.kind==1)=false:=by simpa using h1
                  clear h1 h3
                  go_upto_region 29 with fail
                  obtain⟨S0,hS0⟩:∃S0:World→Prop,S0=fun w'=>w'.cell? ⟨wo.heap.size,3,none⟩=some (.int .i64 (F.blk i).term.kind)∧w'.cell? ⟨w.heap.size,2,none⟩=some (.slice (some ⟨bb,off,none⟩) F.blocks.length c2)∧w'.cell? ⟨bb,off+i*7+5,none⟩=some (.int .i64 (F.blk i).term.t0)∧w'.cell? ⟨bb,off+i*7+6,none⟩=some (.int .i64 (F.blk i).term.t1)∧wo.heap.size<w'.heap.size∧w.heap.size<w'.heap.size∧bb<w'.heap.size:=⟨_,rfl⟩
                  have HS0:=Lh hS0;clear hS0;have k0:=fun xw=>(WS.at HS0 xw).1
                  have k1:=fun xw=>(WS.at HS0 xw).2.1
                  have k2:=fun xw=>(WS.at HS0 xw).2.2.1
                  have k3:=fun xw=>(WS.at HS0 xw).2.2.2.1
                  have k4:=fun xw=>(WS.at HS0 xw).2.2.2.2.1
                  have k5:=fun xw=>(WS.at HS0 xw).2.2.2.2.2.1
                  have k6:=fun xw=>(WS.at HS0 xw).2.2.2.2.2.2
                  refine wp_region_sched (S:=S0) [0,1,2,3,4,5,6,7,8,9,10,11,12,13,14,15,16,17,18,19,20,21,22] ZK ZK (fun _ _ _ _ _ h=>h) ?hS (fun hSc=>?_)
                  case hS=>
                   rw[HS0.out];exact⟨ZI,ZI,ZI,ZI,ZJ,ZJ,ZJ⟩
                  have hne0:Nonempty (WS S0):=⟨⟨_,hSc⟩⟩;simp only[List.map_cons,List.map_nil,Ld,Le]
                  repeat
                   first
                   |((with_reducible refine wpSch_lk ?_ ?_);exact rfl;go_big_quiet_step (fail);(try with_reducible refine wpQuiet_nil ?_);(try dsimp only))
                  refine wpSch_nil ?_;rw[HS0.out]at hSc;obtain⟨p0,p1,p2,p3,p4,p5,p6⟩:=hSc;clear hne0 HS0 k0 k1 k2 k3 k4 k5 k6;obtain⟨wz,hwz⟩:∃wz:World,wz=wr.drew:=⟨_,rfl⟩;rw[← hwz];have hbz:BoxAt wz wo.heap.size #[.string (F.blk i).name,.slice Ax (F.blk i).phis.length cx,.slice Ay (F.blk i).insts.length cy,.int .i64 (F.blk i).term.kind,.int .i64 (F.blk i).term.var,.int .i64 (prTerm F (F.blk i).term).t0,.int .i64 (prTerm F (F.blk i).term).t1] 62:=by rw[hwz];exact hbx.drew
                  have hKz:Kp (fun b=>b≠wo.heap.size) we wz:=by rw[hwz];exact hK2.drew
                  clear hwz b3 b5 b6 bf6 hy5 hy6 q2 hbx hK2 y9 hd p0 p1 p2 p3 p4 p5 p6
                  go_upto_region 31 with fail
                  have hPz:=hPe.kpb hKz hxe hv1 hv2 h69 hwN;obtain⟨cellsq,hOq⟩:=hPz.hq.own;have hto:=KT.of_box hKz hxe;have hRz:=hRe.kt hto ZS (fun _ _ h=>CPh.kt hto ZS h);have hIz:=hine.kt hto ZS (fun _ _ h=>CIn.kt hto ZS h);have hcR:wz.rangeAt wo.heap.size 0 ([.string (F.blk i).name,.slice Ax (F.blk i).phis.length cx,.slice Ay (F.blk i).insts.length cy,.int .i64 (F.blk i).term.kind,.int .i64 (F.blk i).term.var,.int .i64 (prTerm F (F.blk i).term).t0,.int .i64 (prTerm F (F.blk i).term).t1]:List Value):=by
                   have:=World.rangeAt_of_block (w:=wz) (b:=wo.heap.size) hbz 0 7;simpa using this
                  have huB:=Tryz.underlying62;have hinB:(Tryz.prog.info? 62).map (·.size)=some ([.string (F.blk i).name,.slice Ax (F.blk i).phis.length cx,.slice Ay (F.blk i).insts.length cy,.int .i64 (F.blk i).term.kind,.int .i64 (F.blk i).term.var,.int .i64 (prTerm F (F.blk i).term).t0,.int .i64 (prTerm F (F.blk i).term).t1]:List Value).length:=by kernel_rfl
                  have hgo:=hPz.box;have o2:=hgo.cell 2;have ogl:=hgo.lt;have hbzl:=hbz.lt;simp at o2;have hql:qs.length≤64:=by
                   have h1:=congrArg List.length hPz.map;rw[List.length_map,prBlks_len]at h1;have h2:=numP_le (F:=F) i;omega
                  have hvne:∀k,(Value.slice (some ⟨gb,0,none⟩) ps.length cb).ownBlock=some k→(Value.slice Aq qs.length cq).ownBlock≠some k:=fun k e1 e2=>by have h1:=hgb7 k e1;have h2:=hvq7 k e2;omega
                  have hwz:wN.heap.size≤wz.heap.size:=hPz.bel.size;have hsz:w7.heap.size≤wz.heap.size:=by have:=hKz.size;omega
                  have HPZ:=Lh hPz;have HOQ:=Lh hOq;have HRZ:=Lh hRz;have HIZ:=Lh hIz;have HVN:=Lh hvne;have HVQ:=Lh hvq7;clear hPz hRz hIz hvne hto hKz hbz hPe hRe hine hxe hv1 hv2 hv3 hvq7 hgb7 hRp hgt hnr hgn x0 x1 y0 y1 hnw r9 hbN hgt9
                  go_wp2_with(first
                   |(refine wpList_load_mid rfl 62 _ rfl wo.heap.size 0 rfl [.string (F.blk i).name,.slice Ax (F.blk i).phis.length cx,.slice Ay (F.blk i).insts.length cy,.int .i64 (F.blk i).term.kind,.int .i64 (F.blk i).term.var,.int .i64 (prTerm F (F.blk i).term).t0,.int .i64 (prTerm F (F.blk i).term).t1] _ hcR huB rfl hinB ?_)
                   |(refine wpList_one7 rfl _ _ _ rfl Tryz.underlying24 Tryz.info62 rfl ?_)
                   |(at_builtin;refine wpList_appendF _ rfl _ _ 24 rfl wN.heap.size 62 7 96 Tryz.underlying24 Tryz.info62 rfl ZD _ qs.length cellsq rfl hOq _ ZS #[.string (F.blk i).name,.slice Ax (F.blk i).phis.length cx,.slice Ay (F.blk i).insts.length cy,.int .i64 (F.blk i).term.kind,.int .i64 (F.blk i).term.var,.int .i64 (prTerm F (F.blk i).term).t0,.int .i64 (prTerm F (F.blk i).term).t1] rfl rfl (by intro u hu;simp at hu;rcases hu with rfl|rfl|rfl|rfl|rfl|rfl|rfl<;>rfl) ZO ZD ZO ?_
                     intro v' w3 hown3 hg3 hfr3;obtain⟨Ar,cr,hv3⟩:=own_form hown3;subst hv3;have hgo3:=(hgo.alloc (.cells #[.string (F.blk i).name,.slice Ax (F.blk i).phis.length cx,.slice Ay (F.blk i).insts.length cy,.int .i64 (F.blk i).term.kind,.int .i64 (F.blk i).term.var,.int .i64 (prTerm F (F.blk i).term).t0,.int .i64 (prTerm F (F.blk i).term).t1] 62)).grown hg3 (fun e=>own_box_ne hOq hgo ZD e);have t3:=hgo3.cell 2;simp at t3;have t3f:=hgo3.frozen 2
                     have t3l:=hgo3.lt))
                  go_roundw
                  case rel=>
                   have hsn:=HPZ.out.snoc HTH.out hpi HPW.out HOQ.out hown3 hg3 HRZ.out HIZ.out hnz HVN.out hs67;refine⟨i+1,.slice Ar (qs.length+1) cr,qs++[(prBlk F i,.slice Ax (F.blk i).phis.length cx,.slice Ay (F.blk i).insts.length cy)],ZN,hlt,hsn,fun k e=>?_,?_⟩
                   · exact(hfr3 k e).elim (fun h=>HVQ.out k h) (fun h=>ZO)
                   · have:=hg3.size;simp at this ⊢;omega
                  case measure=>simp[intOf];omega
      · obtain rfl:i=ps.length:=by omega
        have hmap:qs.map Prod.fst=(prF F).blocks:=by rw[hP.map,HPLEN.out];rfl
        have hWr9:Below W.heap.size W wr:=HWB.out.trans (hbN.mono HWB.out.size);have hbp:=bnd_pr HN.out;have hFn:FnV wr wr.heap.size (.agg #[.slice Av F.vars.length cv,.slice Ai F.params.length ci,.slice Aq qs.length cq]) (prF F):=fn_of (F:=prF F) hP.hV hP.hI hP.hq hmap hbp;have HJ:=Lh (fun(w':World) (h:Below wr.heap.size wr w')=>graphJoined_calls (HU.out.below hWr9) hFn h hbp.small hbp);have ho:=hP.box;have o0:=ho.cell 0;have o1:=ho.cell 1;have o2:=ho.cell 2;have ogl:=ho.lt;simp at o0 o1 o2;have hres:=y1.below hbN ZO;have hB0:=HB0.out.trans (hbN.mono HB0.out.size);have HP9:=Lh hP;have HMAP:=Lh hmap;have HHO:=Lh ho;clear hP hmap hFn hWr9 ho;obtain⟨j,hj⟩:∃j,joinB (prF F)=j:=⟨_,rfl⟩;rw[hj]at HJ;have HJJ:=Lh hj;clear hj;go_wp2_with fail;refine(HJ.out _ BL).mono ?_;rintro e w8 ⟨rfl,hb8⟩;have hP8:=HP9.out.below hb8;have hr8:=hres.below hb8 hres.lt;have e0:=hr8.cell 0;have e1:=hr8.cell 1;have e2:=hr8.cell 2;have f0:=hr8.frozen 0;have f1:=hr8.frozen 1;have f2:=hr8.frozen 2;have el:=hr8.lt;have ho8:=HHO.out.below hb8 HHO.out.lt;have hB8:=hB0.trans (hb8.mono hB0.size);simp at e0 e1 e2;clear o0 o1 o2 ogl HJ hb8 hres hB0 HP9 HHO;cases j
        · clear hP8 ho8
          go_wp2;have hz:=hr8.set3 (a:=.slice none 0 0) (b:=.slice none 0 0) (c:=.slice none 0 0);have z0:=hz.cell 0;have z1:=hz.cell 1;have z2:=hz.cell 2;simp only[List.getElem?_toArray,List.getElem?_cons_zero,List.getElem?_cons_succ]at z0 z1 z2;have hBz:=((hB8.setCell (p:=⟨w.heap.size+1,0,none⟩) ZS (.slice none 0 0)).setCell (p:=⟨w.heap.size+1,1,none⟩) ZS (.slice none 0 0)).setCell (p:=⟨w.heap.size+1,2,none⟩) ZS (.slice none 0 0);exact bodyPost_ret (v:=.tuple #[.agg #[.slice none 0 0,.slice none 0 0,.slice none 0 0],.int .i64 3]) (by simp[results,Tryz.results40,go_sem,z0,z1,z2]) rfl ⟨hBz,.inr ⟨HJJ.out,rfl⟩⟩
        · have o0:=ho8.cell 0
          have o1:=ho8.cell 1;have o2:=ho8.cell 2;have ogl:=ho8.lt;simp at o0 o1 o2;have HP8:=Lh hP8;clear hP8 ho8;go_wp2;have hz:=hr8.set3 (a:=.slice Av F.vars.length cv) (b:=.slice Ai F.params.length ci) (c:=.slice Aq qs.length cq);have z0:=hz.cell 0;have z1:=hz.cell 1;have z2:=hz.cell 2;simp only[List.getElem?_toArray,List.getElem?_cons_zero,List.getElem?_cons_succ]at z0 z1 z2;have hKe:KT [3,64,67,78,62] w8 (((w8.setCell ⟨w.heap.size+1,0,none⟩ (.slice Av F.vars.length cv)).setCell ⟨w.heap.size+1,1,none⟩ (.slice Ai F.params.length ci)).setCell ⟨w.heap.size+1,2,none⟩ (.slice Aq qs.length cq)):=
           ((KT.refl.setCell hr8 ZS _).setCell (hr8.set 0 _) ZS _).setCell ((hr8.set 0 _).set 1 _) ZS _
          have hfin:FnF _ wN.heap.size (.agg #[.slice Av F.vars.length cv,.slice Ai F.params.length ci,.slice Aq qs.length cq]) (prF F):=⟨_,_,_,qs,rfl,HP8.out.hV.kt hKe ZS (fun _ _ h=>h),own_kt HP8.out.hI hKe ZS,HP8.out.hq.kt hKe ZS (fun _ _ h=>CBO.kt hKe ZS ZS ZS h),HMAP.out⟩;have hBz:=((hB8.setCell (p:=⟨w.heap.size+1,0,none⟩) ZS (.slice Av F.vars.length cv)).setCell (p:=⟨w.heap.size+1,1,none⟩) ZS (.slice Ai F.params.length ci)).setCell (p:=⟨w.heap.size+1,2,none⟩) ZS (.slice Aq qs.length cq);exact bodyPost_ret (v:=.tuple #[.agg #[.slice Av F.vars.length cv,.slice Ai F.params.length ci,.slice Aq qs.length cq],.int .i64 0]) (by simp[results,Tryz.results40,go_sem,z0,z1,z2]) rfl ⟨hBz,.inl ⟨HJJ.out,_,_,rfl,hfin⟩⟩
end Go.Proofs.YthhjlbflpjhahaaGreatDoor
