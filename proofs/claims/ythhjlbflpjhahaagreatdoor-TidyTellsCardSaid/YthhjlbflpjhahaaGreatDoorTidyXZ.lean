/- The walk of the law TidyTells: it returns true, whatever the program and the two numbers. -/
import Derived.Test.YthhjlbflpjhahaaGreatDoorTidyYZ
import Derived.Test.YthhjlbflpjhahaaGreatDoorTdVZ
import Derived.Test.YthhjlbflpjhahaaGreatDoorPruneNZ
import Derived.Test.YthhjlbflpjhahaaGreatDoorSameZ
namespace Go.Proofs.YthhjlbflpjhahaaGreatDoor
open Go.RowKit
set_option maxRecDepth 100000
theorem lawJo_any{W w:World}{fv:Value}{F:PFunc}(hU:Uni W)(hF:FnV W W.heap.size fv F)(hW:Below W.heap.size W w)(hf:fewB F=true) :
 Calls Tryz.prog 16 #[fv] w fun e w'=>e=.returned (.bool (joinB F))∧Below w.heap.size w w':=by
 cases hT:typedP F
 · have hL:lawT F=false:=by rw[lawT,hT,Bool.and_false]
   rw[show joinB F=false by rw[joinB,hT];rfl];exact lawJoinedNo_calls hU hF hW hL
 · have hL:lawT F=true:=by rw[lawT,hT,hf];rfl
   rw[show joinB F=refJoinB F by rw[joinB,hT,Bool.true_and,join_eq hT]];exact lawJoined_calls hU hF hW hL
set_option maxHeartbeats 4000000 in
theorem straightNo_calls{W w:World}{fv:Value}{F:PFunc}(hU:Uni W)(hF:FnV W W.heap.size fv F)(hW:Below W.heap.size W w)(hS:Small F)(hN:Bnd F)(hj:joinB F=false) :
 Calls Tryz.prog 15 #[fv] w fun e w'=>e=.returned (.tuple #[.agg #[.slice none 0 0,.slice none 0 0,.slice none 0 0],.int .i64 3])∧Below w.heap.size w w':=by
 have hWs:=hW.size;have hjn:=fun(w':World) (h:Below W.heap.size W w')=>graphJoined_calls hU hF h hS hN
 rw[hj,show errOf false=3 from rfl]at hjn;obtain⟨A0,c0,A1,c1,A2,c2,rfl,-⟩:=id hF.open_;obtain⟨w3,hw3⟩:∃w3:World,w3=(w.alloc (.cells #[.slice A0 F.vars.length c0,.slice A1 F.params.length c1,.slice A2 F.blocks.length c2] 26)).alloc (.cells #[.slice none 0 0,.slice none 0 0,.slice none 0 0] 26):=⟨_,rfl⟩;have hb3:Below w.heap.size w w3:=by rw[hw3];exact BL
 have x1:BoxAt w3 (w.heap.size+1) #[.slice none 0 0,.slice none 0 0,.slice none 0 0] 26:=by
  rw[hw3];have:=BoxAt.new (w.alloc (.cells #[.slice A0 F.vars.length c0,.slice A1 F.params.length c1,.slice A2 F.blocks.length c2] 26)) #[.slice none 0 0,.slice none 0 0,.slice none 0 0] 26;simpa using this
 have hW3:=hW.trans (hb3.mono hWs);clear hj hU hS hF hN;go_enter Tryz.func15,Tryz.ntmps15;go_wp2_with(go_at_call 39;rw[← hw3];refine(hjn _ hW3).mono ?_;rintro e w4 ⟨rfl,hb4⟩;clear hw3;have hr8:=x1.below hb4 x1.lt;have e0:=hr8.cell 0;have e1:=hr8.cell 1;have e2:=hr8.cell 2;have f0:=hr8.frozen 0;have f1:=hr8.frozen 1;have f2:=hr8.frozen 2;have el:=hr8.lt;simp at e0 e1 e2);have hB8:=hb3.trans (hb4.mono hb3.size);have hz:=hr8.set3 (a:=.slice none 0 0) (b:=.slice none 0 0) (c:=.slice none 0 0);have z0:=hz.cell 0;have z1:=hz.cell 1;have z2:=hz.cell 2;simp only[List.getElem?_toArray,List.getElem?_cons_zero,List.getElem?_cons_succ]at z0 z1 z2;have hBz:=((hB8.setCell (p:=⟨w.heap.size+1,0,none⟩) ZS (.slice none 0 0)).setCell (p:=⟨w.heap.size+1,1,none⟩) ZS (.slice none 0 0)).setCell (p:=⟨w.heap.size+1,2,none⟩) ZS (.slice none 0 0);exact bodyPost_ret (v:=.tuple #[.agg #[.slice none 0 0,.slice none 0 0,.slice none 0 0],.int .i64 3]) (by simp[results,Tryz.results15,go_sem,z0,z1,z2]) rfl ⟨rfl,hBz⟩
set_option maxHeartbeats 8000000 in
theorem tidyTells_law{W:World}{fv:Value}{F:PFunc}{a b:Int}(hU:Uni W)(hF:FnV W W.heap.size fv F) :
 Calls Tryz.prog 3 #[fv,.int .i64 a,.int .i64 b] W fun e w'=>e=.returned (.bool true)∧Below W.heap.size W w':=by
 have hlv:=fun(w:World) (h:Below W.heap.size W w)=>livesT_calls hU h
 have hfw:=fun(w:World) (h:Below W.heap.size W w)=>few_calls hF h
 obtain⟨w,rfl⟩:∃w:World,w=W:=⟨_,rfl⟩;obtain⟨A0,c0,A1,c1,A2,c2,rfl,l0,l1,l2,-,-,-,r0,r1,r2⟩:=id hF.open_;unfold Len at *;clear r0 r1 r2;have hb0:=(Br w.heap.size w).alloc (Nr _) (.cells #[.slice A0 F.vars.length c0,.slice A1 F.params.length c1,.slice A2 F.blocks.length c2] 26);cases hx:fewB F
 · rw[hx]at hfw
   clear hx hF;go_enter Tryz.func3,Tryz.ntmps3;go_wp2_with fail;refine(hlv _ BL).mono ?_;(rintro e w1 ⟨rfl,hb1⟩;obtain⟨hc1,hf1⟩:=bcell hb1;have hz1:=hb1.size;try simp at hz1;try have hy1:=Nl hz1;try have hx1:=Ns hy1;try have hw1:=Ns hx1);go_wp2_with fail;refine(hfw _ BL).mono ?_;(rintro e w2 ⟨rfl,hb2⟩;obtain⟨hc2,hf2⟩:=bcell hb2;have hz2:=hb2.size;try simp at hz2;try have hy2:=Nl hz2;try have hx2:=Ns hy2;try have hw2:=Ns hx2);go_wp2_with fail;refine(hlv _ BL).mono ?_;(rintro e w3 ⟨rfl,hb3⟩;obtain⟨hc3,hf3⟩:=bcell hb3;have hz3:=hb3.size;try simp at hz3;try have hy3:=Nl hz3;try have hx3:=Ns hy3;try have hw3:=Ns hx3);go_wp2;go_ret;exact⟨rfl,BL⟩
 rw[hx]at hfw;have hS:=few_small hx;have hBn:=few_bnd hx;have HTY:=Lh (fun(w':World) (h:Below w.heap.size w w')=>lawTyped_calls hU hF h);rw[show lawT F=typedP F by rw[lawT,hx,Bool.true_and]]at HTY;have HLJ:=Lh (fun(w':World) (h:Below w.heap.size w w')=>lawJo_any hU hF h hx);have HFN:=Lh (fun(w':World) (h:Below w.heap.size w w') (hT:typedP F=false)=>tidyFollowsNo_calls hU hF h hS hT a b);have HFY:=Lh (fun(w':World) (h:Below w.heap.size w w') (hT:typedP F=true)=>tidyFollowsYes_calls hU hF h hS hT a b);have HRF:=Lh (fun(w':World) (h:Below w.heap.size w w') (x y:Nat) (hx:x<F.blocks.length) (hy:y<F.blocks.length)=>refFollows_calls hF h hx hy);have HSN:=Lh (fun(w':World) (h:Below w.heap.size w w') (hj:joinB F=false)=>straightNo_calls hU hF h hS hBn hj);have HSY:=Lh (fun(w':World) (h:Below w.heap.size w w') (hT:typedP F=true) (hJ:joinedB F=true)=>straight_calls hU hF h hS hBn hT hJ);have HRS:=Lh (fun(w':World) (h:Below w.heap.size w w') (hT:typedP F=true) (hJ:joinedB F=true)=>refStraight_calls hF h hBn hT hJ);clear hx hF hS hBn hU;go_enter Tryz.func3,Tryz.ntmps3;go_wp2_with fail;refine(hlv _ BL).mono ?_;(rintro e w1 ⟨rfl,hb1⟩;obtain⟨hc1,hf1⟩:=bcell hb1;have hz1:=hb1.size;try simp at hz1;try have hy1:=Nl hz1;try have hx1:=Ns hy1;try have hw1:=Ns hx1);go_wp2_with fail;refine(hfw _ BL).mono ?_;(rintro e w2 ⟨rfl,hb2⟩;obtain⟨hc2,hf2⟩:=bcell hb2;have hz2:=hb2.size;try simp at hz2;try have hy2:=Nl hz2;try have hx2:=Ns hy2;try have hw2:=Ns hx2);have hbx:BoxAt w2 w.heap.size #[.slice A0 F.vars.length c0,.slice A1 F.params.length c1,.slice A2 F.blocks.length c2] 26:=BoxAt.below (BoxAt.below (BoxAt.new _ _ _) hb1 ZS) hb2 ZO;have hB2:Below w.heap.size w w2:=BL;have HBX:=Lh hbx;have HB2:=Lh hB2;clear hb0 hb1 hb2 hc1 hf1 hc2 hf2 hlv hfw hB2;have q0:=hbx.cell 0;have q1:=hbx.cell 1;have q2:=hbx.cell 2;have ql:=hbx.lt;simp at q0 q1 q2;clear hbx
 have HFA:=Lh (fun(w':World) (h:Below w.heap.size w w')=>show Calls Tryz.prog 13 #[.agg #[.slice A0 F.vars.length c0,.slice A1 F.params.length c1,.slice A2 F.blocks.length c2],.int .i64 a,.int .i64 b] w' fun e w''=>e=.returned (.bool ((typedP F&&decide (0≤a∧a<F.blocks.length∧0≤b∧b<F.blocks.length))&&fol F a.toNat b.toNat))∧Below w'.heap.size w' w'' from by
  cases hT:typedP F
  · exact HFN.out w' h hT
  · exact HFY.out w' h hT)
 clear HFN HFY
 go_upto_region 4 with fail
 go_cut[8] (fun s wx=>s=.bool (typedP F&&decide (0≤a∧a<F.blocks.length∧0≤b∧b<F.blocks.length))∧BoxAt wx w.heap.size #[.slice A0 F.vars.length c0,.slice A1 F.params.length c1,.slice A2 F.blocks.length c2] 26∧Below w.heap.size w wx)
 case first=>
  have hty:=HTY.out;clear HTY HLJ HFA HRF HSN HSY HRS;cases hT:typedP F
  · as_aux_lemma=>
    rw[hT]at hty;have HTP:=Lh hT;clear hT;go_wp2_with(go_at_call 12;refine(hty _ HB2.out).mono ?_;rintro e w3 ⟨rfl,hb3⟩)
    go_meet
    exact⟨by rw[HTP.out];rfl,HBX.out.below hb3 ql,HB2.out.trans (hb3.mono HB2.out.size)⟩
  · rw[hT]at hty
    have HTP:=Lh hT
    by_cases h1:0≤a
    · have d1:decide (a≥0)=true:=decide_eq_true h1
      by_cases h2:a<F.blocks.length
      · have d2:decide (a<(F.blocks.length:Int))=true:=decide_eq_true h2
        by_cases h3:0≤b
        · have d3:decide (b≥0)=true:=decide_eq_true h3
          by_cases h4:b<F.blocks.length
          · as_aux_lemma=>
            have d4:decide (b<(F.blocks.length:Int))=true:=decide_eq_true h4;have HE:=Lh (decide_eq_true (show 0≤a∧a<F.blocks.length∧0≤b∧b<F.blocks.length from⟨h1,h2,h3,h4⟩));clear hT h1 h2 h3 h4;go_wp2_with(go_at_call 12;refine(hty _ HB2.out).mono ?_;rintro e w3 ⟨rfl,hb3⟩)
            go_meet
            exact⟨by rw[HTP.out,HE.out];rfl,HBX.out.below hb3 ql,HB2.out.trans (hb3.mono HB2.out.size)⟩
          · as_aux_lemma=>
            have d4:decide (b<(F.blocks.length:Int))=false:=decide_eq_false h4;have HE:=Lh (decide_eq_false (show ¬(0≤a∧a<F.blocks.length∧0≤b∧b<F.blocks.length)from fun h=>h4 h.2.2.2));clear hT h1 h2 h3 h4;go_wp2_with(go_at_call 12;refine(hty _ HB2.out).mono ?_;rintro e w3 ⟨rfl,hb3⟩)
            go_meet
            exact⟨by rw[HTP.out,HE.out];rfl,HBX.out.below hb3 ql,HB2.out.trans (hb3.mono HB2.out.size)⟩
        · as_aux_lemma=>
          have d3:decide (b≥0)=false:=decide_eq_false h3;have HE:=Lh (decide_eq_false (show ¬(0≤a∧a<F.blocks.length∧0≤b∧b<F.blocks.length)from fun h=>h3 h.2.2.1));clear hT h1 h2 h3;go_wp2_with(go_at_call 12;refine(hty _ HB2.out).mono ?_;rintro e w3 ⟨rfl,hb3⟩)
          go_meet
          exact⟨by rw[HTP.out,HE.out];rfl,HBX.out.below hb3 ql,HB2.out.trans (hb3.mono HB2.out.size)⟩
      · as_aux_lemma=>
        have d2:decide (a<(F.blocks.length:Int))=false:=decide_eq_false h2;have HE:=Lh (decide_eq_false (show ¬(0≤a∧a<F.blocks.length∧0≤b∧b<F.blocks.length)from fun h=>h2 h.2.1));clear hT h1 h2;go_wp2_with(go_at_call 12;refine(hty _ HB2.out).mono ?_;rintro e w3 ⟨rfl,hb3⟩)
        go_meet
        exact⟨by rw[HTP.out,HE.out];rfl,HBX.out.below hb3 ql,HB2.out.trans (hb3.mono HB2.out.size)⟩
    · as_aux_lemma=>
      have d1:decide (a≥0)=false:=decide_eq_false h1;have HE:=Lh (decide_eq_false (show ¬(0≤a∧a<F.blocks.length∧0≤b∧b<F.blocks.length)from fun h=>h1 h.1));clear hT h1;go_wp2_with(go_at_call 12;refine(hty _ HB2.out).mono ?_;rintro e w3 ⟨rfl,hb3⟩)
      go_meet
      exact⟨by rw[HTP.out,HE.out];rfl,HBX.out.below hb3 ql,HB2.out.trans (hb3.mono HB2.out.size)⟩
 case rest=>
  obtain⟨rfl,hbx,hB⟩:=hcut;clear q0 q1 q2 ql HBX HB2 HTY;have q0:=hbx.cell 0;have q1:=hbx.cell 1;have q2:=hbx.cell 2;have ql:=hbx.lt;simp at q0 q1 q2;have HBX:=Lh hbx;have HB:=Lh hB;have hfa:=HFA.out;have HRG:=Lh (fun(h:(typedP F&&decide (0≤a∧a<F.blocks.length∧0≤b∧b<F.blocks.length))=true)=>(Bool.and_eq_true _ _▸h:typedP F=true∧decide (0≤a∧a<F.blocks.length∧0≤b∧b<F.blocks.length)=true).2);generalize hin:(typedP F&&decide (0≤a∧a<F.blocks.length∧0≤b∧b<F.blocks.length))=inb at *;clear hbx hB
  go_upto_region 5 with fail
  go_cut[53] (fun s wx=>s=.bool false∧BoxAt wx w.heap.size #[.slice A0 F.vars.length c0,.slice A1 F.params.length c1,.slice A2 F.blocks.length c2] 26∧Below w.heap.size w wx)
  case first=>
   cases inb
   · as_aux_lemma=>
     rw[Bool.false_and]at hfa;clear hin HLJ HFA HRF HSN HSY HRS HRG;go_wp2_with(go_at_call 13;refine(hfa _ HB.out).mono ?_;rintro e w4 ⟨rfl,hb4⟩)
     go_meet
     exact⟨rfl,HBX.out.below hb4 ql,HB.out.trans (hb4.mono HB.out.size)⟩
   · as_aux_lemma=>
     have hr:=of_decide_eq_true (HRG.out rfl);obtain⟨x,rfl⟩:∃x:Nat,a=x:=⟨a.toNat,ZO⟩;obtain⟨y,rfl⟩:∃y:Nat,b=y:=⟨b.toNat,ZO⟩;have hrf:=fun w' h=>HRF.out w' h x y ZO ZO
     rw[Bool.true_and,Int.toNat_natCast,Int.toNat_natCast]at hfa;clear hin hr HLJ HFA HRF HSN HSY HRS HRG;generalize fol F x y=z at *;cases z
     all_goals
      go_wp2_with(first|(go_at_call 13;refine(hfa _ HB.out).mono ?_;rintro e w4 ⟨rfl,hb4⟩;have hx4:=HBX.out.below hb4 ql;have hB4:=HB.out.trans (hb4.mono HB.out.size);have g0:=hx4.cell 0;have g1:=hx4.cell 1;have g2:=hx4.cell 2;have gl:=hx4.lt;simp at g0 g1 g2)|(go_at_call 14;refine(hrf _ hB4).mono ?_;rintro e w5 ⟨rfl,hb5⟩))
      go_meet
      exact⟨rfl,hx4.below hb5 gl,hB4.trans (hb5.mono hB4.size)⟩
  case rest=>
  clear q0 q1 q2 ql HBX HB;obtain⟨rfl,hbx,hB⟩:=hcut;have q0:=hbx.cell 0;have q1:=hbx.cell 1;have q2:=hbx.cell 2;have ql:=hbx.lt;simp at q0 q1 q2;have hlj:=HLJ.out;cases hj:joinB F
  · as_aux_lemma=>
    rw[hj]at hlj;have hsn:=fun w' h=>HSN.out w' h hj
    clear hj HLJ HFA HRF HSN HSY HRS HRG hin hfa;go_wp2_with fail;refine(hsn _ hB).mono ?_;rintro e w5 ⟨rfl,hb5⟩;have hx5:=hbx.below hb5 ql;have hB5:=hB.trans (hb5.mono hB.size);have e0:=hx5.cell 0;have e1:=hx5.cell 1;have e2:=hx5.cell 2;have el:=hx5.lt;simp at e0 e1 e2;clear q0 q1 q2;go_wp2_with fail;refine(hlj _ BL).mono ?_;rintro e w6 ⟨rfl,hb6⟩;have hx6:=BoxAt.below (BoxAt.new _ _ _) hb6 ZS;have g2:=hx6.cell 2;have gl:=hx6.lt;simp at g2;go_wp2_with fail;go_ret;exact⟨rfl,BL⟩
  · as_aux_lemma=>
    rw[hj]at hlj;have hTJ:typedP F=true∧joinedB F=true:=by rw[joinB,Bool.and_eq_true]at hj;exact hj
    have hsy:=fun w' h=>HSY.out w' h hTJ.1 hTJ.2
    have hrs:=fun w' h=>HRS.out w' h hTJ.1 hTJ.2
    have hPT:=(joined_pr hTJ.1 hTJ.2).1;have HUQ:=Lh (fun(G G':PFunc) (h:IsT (prF F) G) (h':IsT (prF F) G')=>IsT.uniq (typed_rk hPT (pr_all hTJ.1 hPT)) (typed_rg hPT) h h');clear hj hPT hTJ HLJ HFA HRF HSN HSY HRS HRG hin hfa;go_wp2_with fail;refine(hsy _ hB).mono ?_;rintro e w5 ⟨⟨gv,G,rfl,hG,hGT⟩,hb5⟩;obtain⟨C0,k3,C1,k4,C2,k5,rfl,-⟩:=id hG.open_;have hx5:=hbx.below hb5 ql;have hB5:=hB.trans (hb5.mono hB.size);have e0:=hx5.cell 0;have e1:=hx5.cell 1;have e2:=hx5.cell 2;have el:=hx5.lt;simp at e0 e1 e2;have HG:=Lh hG;have HGT:=Lh hGT;clear q0 q1 q2 hG hGT hsy;go_wp2_with fail;refine(hlj _ BL).mono ?_;rintro e w6 ⟨rfl,hb6⟩;have h56:Below w5.heap.size w5 w6:=BL;have hx6:=hx5.below h56 el;have hy6:=BoxAt.below (BoxAt.new _ _ _) hb6 ZS;have hB6:=hB5.trans (h56.mono hB5.size);have h0:=hx6.cell 0;have h1:=hx6.cell 1;have h2:=hx6.cell 2;have hl:=hx6.lt;have y0:=hy6.cell 0;have y1:=hy6.cell 1;have y2:=hy6.cell 2;have yl:=hy6.lt;simp at h0 h1 h2 y0 y1 y2;clear e0 e1 e2 hlj hb6
    go_upto_region 10 with fail
    obtain⟨S0,hS0⟩:∃S0:World→Prop,S0=fun w'=>w'.cell? ⟨w.heap.size,0,none⟩=some (.slice A0 F.vars.length c0)∧w'.cell? ⟨w.heap.size,1,none⟩=some (.slice A1 F.params.length c1)∧w'.cell? ⟨w.heap.size,2,none⟩=some (.slice A2 F.blocks.length c2)∧w'.cell? ⟨w5.heap.size,0,none⟩=some (.slice C0 G.vars.length k3)∧w'.cell? ⟨w5.heap.size,1,none⟩=some (.slice C1 G.params.length k4)∧w'.cell? ⟨w5.heap.size,2,none⟩=some (.slice C2 G.blocks.length k5)∧Below w6.heap.size w6 w'∧w.heap.size<w'.heap.size∧w5.heap.size<w'.heap.size:=⟨_,rfl⟩
    have HS0:=Lh hS0;clear hS0;have k0:=fun xw=>(WS.at HS0 xw).1
    have k1:=fun xw=>(WS.at HS0 xw).2.1
    have k2:=fun xw=>(WS.at HS0 xw).2.2.1
    have k3:=fun xw=>(WS.at HS0 xw).2.2.2.1
    have k4:=fun xw=>(WS.at HS0 xw).2.2.2.2.1
    have k5:=fun xw=>(WS.at HS0 xw).2.2.2.2.2.1
    have k6:=fun xw=>(WS.at HS0 xw).2.2.2.2.2.2.1
    have k7:=fun xw=>(WS.at HS0 xw).2.2.2.2.2.2.2.1
    have k8:=fun xw=>(WS.at HS0 xw).2.2.2.2.2.2.2.2
    refine wp_region_sched (S:=S0) [0,1,2,3,4,5,6,7,8] ZK ZK (fun _ _ _ _ _ h=>h) ?hS (fun hSc=>?_)
    case hS=>
     rw[HS0.out];exact⟨ZI,ZI,ZI,ZI,ZI,ZI,BL,ZJ,ZJ⟩
    have hne0:Nonempty (WS S0):=⟨⟨_,hSc⟩⟩;simp only[List.map_cons,List.map_nil,Ld,Le]
    repeat
     first
     |((with_reducible refine wpSch_lk ?_ ?_);exact rfl;go_big_quiet_step (fail);(try with_reducible refine wpQuiet_nil ?_);(try dsimp only))
     |((with_reducible refine wpSch_act ?_ ?_ (fun K hK=>?_))
       exact rfl;exact rfl;go_simp;(try go_wp2_with(first|(go_at_call 18;refine(hrs _ (hB6.trans (Below.mono BL hB6.size))).mono ?_;rintro e w7 ⟨⟨mv,G',rfl,hM,hMT⟩,hb7⟩;obtain rfl:=HUQ.out G G' HGT.out hMT;obtain⟨D0,j3,D1,j4,D2,j5,rfl,-⟩:=id hM.open_;have hb9:=hb7;obtain⟨hc9,hf9⟩:=bcell hb9;have hz9:=hb9.size;(try simp at hz9);have h67:Below w6.heap.size w6 w7:=BL)|(go_at_call 17;have h57:=h56.trans (h67.mono h56.size);refine(same_calls (HG.out.keep (Kept.of_below h57) h57.size) hM BL).mono ?_;rintro e w8 ⟨rfl,hb8⟩;have hb9:=hb8;obtain⟨hc9,hf9⟩:=bcell hb9;have hz9:=hb9.size;(try simp at hz9))));refine hK.out _ _ ?hS (fun hSc=>?_)
       case hS=>
        first
        |exact hSc
        |(rw[HS0.out]at hSc ⊢;obtain⟨p0,p1,p2,p3,p4,p5,p6,p7,p8⟩:=hSc;exact⟨ZC0,ZC1,ZC2,ZC3,ZC4,ZC5,ZL6,ZT7,ZT8⟩)
       clear hK K)
    refine wpSch_nil ?_;rw[HS0.out]at hSc;obtain⟨p0,p1,p2,p3,p4,p5,p6,p7,p8⟩:=hSc;clear hne0 HS0 k0 k1 k2 k3 k4 k5 k6 k7 k8;go_wp2;go_ret;exact⟨rfl,hB6.trans (Below.mono BL hB6.size)⟩
end Go.Proofs.YthhjlbflpjhahaaGreatDoor
