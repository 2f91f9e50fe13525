/- The walk of inst of the document's run: operations of one argument. -/
import Derived.Test.YthhjlbflpjhahaaGreatDoorRunSZ
namespace Go.Proofs.YthhjlbflpjhahaaGreatDoor
open Go.RowKit
set_option maxRecDepth 100000
section
variable {W w:World} {D:Nat→Prop} {nb gi gb ga:Nat} {x0 x1 x2 vr vt:Value} {vrs:List Value} {s:RSt} {F:PFunc} {x:PInst} {Aa:Option Addr} {ca o:Nat}
set_option maxHeartbeats 16000000 in
theorem Yo8(hI:RInv F s)(hop:x.op=(o:Int))(ho:o<27)(hgrp:x.args.length=1)(hno:¬(18≤o∧o≤24))(hx:Yj F x=true)(hA:Rd W.heap.size Aa x.args 1 (Yi W))(hlen:Len x.args.length)(hW:Below W.heap.size W w)
 (h:RunO w D x0 x1 x2 nb gi gb ga F.vars.length vr vt vrs s) (hD:∀k,D k→k<w.heap.size) :
 Calls Tryz.prog 60 #[.pointer (some ⟨nb,0,none⟩),.agg #[.int .i64 (o:Int),.int .i64 x.dst,.slice Aa x.args.length ca,.int .i64 x.num]] w fun e w'=>e=.returned (.tuple #[])∧Yc1 w D x0 x1 x2 nb gi gb ga F.vars.length (instN o s x) w':=by
 obtain⟨hv,hl,hm⟩:=YaR hx;have hck:=fun w=>Ye1 (w:=w) o ho
 rw[if_neg hno]at hck;have hlen':decide ((1:Int)<(x.args.length:Int))=false:=decide_eq_false ZO;have hlen0:(0:Int)<(x.args.length:Int):=by omega
 have hgs:=Yno o ho (by rw[hop]at hl;omega) hno;have hg1:1≤x.args.length:=by omega
 clear hno hgrp;unfold Len at hlen;obtain⟨sW,HSW⟩:∃sW,Hid (sW=bs (kindAt o).1):=⟨_,rfl⟩;have HL:=Lh hl;have HM:=Lh hm;have HX:=Lh hx;have HV:=Lh hv;have HI:=Lh hI;clear hl hm hx hv hI;go_enter Tryz.func60,Tryz.ntmps60
 go_upto_region 1 with fail
 go_cut[4] (fun s4 wx=>s4=.string sW∧Below (w.heap.size+1) (w.alloc (.cells #[.int .i64 (o:Int),.int .i64 x.dst,.slice Aa x.args.length ca,.int .i64 x.num] 67)) wx)
 case first=>as_aux_lemma=>
  obtain⟨S0,hS0⟩:∃S0:World→Prop,S0=fun w'=>w'.cell? ⟨w.heap.size,0,none⟩=some (.int .i64 (o:Int))∧Below (w.heap.size+1) (w.alloc (.cells #[.int .i64 (o:Int),.int .i64 x.dst,.slice Aa x.args.length ca,.int .i64 x.num] 67)) w'∧w.heap.size<w'.heap.size:=⟨_,rfl⟩
  have HS0:=Lh hS0;clear hS0;have k0:=fun xw=>(WS.at HS0 xw).1
  have k1:=fun xw=>(WS.at HS0 xw).2.1
  have k2:=fun xw=>(WS.at HS0 xw).2.2
  refine YeD (S:=S0) [(1,false),(2,false),(0,true),(3,false),(4,false),(5,true),(6,false)] ZK ZK (fun _ _ _ _ _ h=>h) ?hS (fun hSc=>?_)
  case hS=>
   rw[HS0.out];exact⟨ZI,BL,ZJ⟩
  have hne0:Nonempty (WS S0):=⟨⟨_,hSc⟩⟩;simp only[List.map_cons,List.map_nil,Ld,Le]
  repeat
   first
   |((with_reducible refine YeE ?_ ?_);exact rfl;dsimp only;go_big_quiet_step (fail);(try with_reducible refine wpQuiet_nil ?_);(try dsimp only))
   |((with_reducible refine YeF ?_ ?_ (fun K hK=>?_))
     exact rfl;exact rfl;dsimp only;go_simp;(try go_wp2_with(go_at_call 76;refine Ybl.mono ?_;rintro e w9 ⟨rfl,hR9,hz9,hb9⟩;obtain⟨hc9,hf9⟩:=Yb hb9;obtain⟨hr0,hr1,hr2⟩:=hR9 o ho;try simp at hz9;try simp only[heap_drew,World.size_alloc]at hr0 hr1 hr2;rw[← HSW.out]at hr0));refine hK.out _ _ ?hS (fun hSc=>?_)
     case hS=>
      first
      |exact hSc
      |(rw[HS0.out]at hSc ⊢;obtain⟨p0,p1,p2⟩:=hSc;exact⟨ZC0,ZL1,ZT2⟩)
      |(rw[HS0.out]at hSc ⊢;obtain⟨p0,p1,p2⟩:=hSc;exact⟨ZC,BL,ZT⟩)
     clear hK K)
  refine YeG ?_;rw[HS0.out]at hSc;obtain⟨p0,p1,p2⟩:=hSc;clear hne0 HS0 k0 k1 k2;go_wp2_with fail
  go_meet
  exact⟨rfl,BL⟩
 case rest=>as_aux_lemma=>
  obtain⟨rfl,hbc⟩:=hcut;obtain⟨i8,ix⟩:=YbE hbc;have i0:wc.cell? ⟨w.heap.size,0,none⟩=some (.int .i64 (o:Int)):=ix 0;have i1:wc.cell? ⟨w.heap.size,1,none⟩=some (.int .i64 x.dst):=ix 1;have i2:wc.cell? ⟨w.heap.size,2,none⟩=some (.slice Aa x.args.length ca):=ix 2;have i3:wc.cell? ⟨w.heap.size,3,none⟩=some (.int .i64 x.num):=ix 3;have hBc:Below w.heap.size w wc:=((Br _ _).alloc (Nr _) _).trans (hbc.mono (Nat.le_succ _));have hWc:=hW.trans (hBc.mono hW.size);have h2:=h.below hBc;have HK:=Lh (Kp.below (D:=D) hBc (fun k _ hk=>hD k hk));have HD:=Lh (show ∀k,D k→k<wc.heap.size from fun k hk=>Nt (hD k hk) hBc.size);obtain⟨k0,b0,off0,e0,n0,ha0,hb0,c0⟩:=Yc2 HV.out hA hWc (i:=0) ZO;replace c0:wc.cell? ⟨b0,off0,none⟩=some (.int .i64 (k0:Int)):=c0;have xl:=h2.box.lt;have x1l:=h2.box.cell 3;have x2l:=h2.box.cell 4;have x3l:=h2.box.cell 5;have x4l:=h2.box.cell 6;replace x1l:wc.cell? ⟨nb,3,none⟩=some (.slice (some ⟨gi,0,none⟩) F.vars.length F.vars.length):=x1l;replace x2l:wc.cell? ⟨nb,4,none⟩=some (.slice (some ⟨gb,0,none⟩) F.vars.length F.vars.length):=x2l;replace x3l:wc.cell? ⟨nb,5,none⟩=some (.slice (some ⟨ga,0,none⟩) F.vars.length F.vars.length):=x3l;replace x4l:wc.cell? ⟨nb,6,none⟩=some vr:=x4l;have gil:=(h2.ints.lt gi rfl).2;have gbl:=(h2.bools.lt gb rfl).2;have gal:=(h2.arrs.lt ga rfl).2;have H2:=Lh h2;have a0:=Yn h2.ints n0;have p0:=Y9 h2.bools n0;have r0:=Yn h2.arrs n0;have ea:Hid (s.int (ith x.args 0)=ith s.ints k0):=by rw[e0];rfl
  have ep:Hid (s.boo (ith x.args 0)=s.bools.getD k0 false):=by rw[e0];rfl
  have er:Hid (s.arr (ith x.args 0)=ith s.arrs k0):=by rw[e0];rfl
  have k0l:(k0:Int)<(F.vars.length:Int):=by omega
  have RB:=Lh (show ith s.arrs k0<(s.rows.length:Int)from HI.out.arr (v:=(k0:Int)) rfl n0);clear h h2 ix hbc e0;rw[ha0]at i2;rw[ha0]at hA;clear ha0;generalize ith s.ints k0=a at a0 ea;generalize s.bools.getD k0 false=p at p0 ep;generalize ith s.arrs k0=r at r0 er RB;go_wp2_with(go_at_call 88;refine(hck _).mono ?_;rintro e w9 ⟨rfl,rfl⟩)
  go_quiet (fail)
  rcases hgs with rfl|rfl|rfl|rfl|rfl
  · as_aux_lemma=>
    obtain⟨d,hd,hdn⟩:=Yae (HM.out (by rw[hop];exact(YaN 1 ZD).resolve_right ZD));rw[hd]at i1;have hdi:(d:Int)<(F.vars.length:Int):=by omega
    have fi:=H2.out.ints.frozenAt d;have fb:=H2.out.bools.frozenAt d;have fa:=H2.out.arrs.frozenAt d;have yi:=Yn H2.out.ints hdn;have yb:=Y9 H2.out.bools hdn;have ya:=Yn H2.out.arrs hdn;obtain⟨q0,q1,-,-,-,-,-,-,-,-,-,-,-,-,-,-,-,-,-,-⟩:=Y5 1 ZD HSW.out;have HF:=Lh (show instN 1 s x=((s.setI (d:Int) a).setB (d:Int) p).setA (d:Int) r by rw[← hd];show((s.setI x.dst (s.int (ith x.args 0))).setB x.dst (s.boo (ith x.args 0))).setA x.dst (s.arr (ith x.args 0))=_;rw[ea.out,ep.out,er.out]);have u1:gb≠gi:=fun e=>Yp H2.out.ints H2.out.bools ZD rfl (by rw[e];rfl)
    have u2:ga≠gi:=fun e=>Yp H2.out.ints H2.out.arrs ZD rfl (by rw[e];rfl)
    have u3:ga≠gb:=fun e=>Yp H2.out.bools H2.out.arrs ZD rfl (by rw[e];rfl)
    have v1:=u1.symm;have v2:=u2.symm;have v3:=u3.symm;go_wp2_with fail;obtain⟨S0,hS0⟩:∃S0:World→Prop,S0=fun w'=>w'.cell? ⟨nb,3,none⟩=some (.slice (some ⟨gi,0,none⟩) F.vars.length F.vars.length)∧w'.cell? ⟨nb,4,none⟩=some (.slice (some ⟨gb,0,none⟩) F.vars.length F.vars.length)∧w'.cell? ⟨nb,5,none⟩=some (.slice (some ⟨ga,0,none⟩) F.vars.length F.vars.length)∧nb<w'.heap.size:=⟨_,rfl⟩
    have HS0:=Lh hS0;clear hS0;have k0:=fun xw=>(WS.at HS0 xw).1
    have k1:=fun xw=>(WS.at HS0 xw).2.1
    have k2:=fun xw=>(WS.at HS0 xw).2.2.1
    have k3:=fun xw=>(WS.at HS0 xw).2.2.2
    refine YZ (S:=S0) [18,19,20,21,22,23] ZK ?hS (fun hSc hcl=>?_)
    case hS=>
     rw[HS0.out];exact⟨ZI,ZI,ZI,ZJ⟩
    have hne0:Nonempty (WS S0):=⟨⟨_,hSc⟩⟩;have hneT:Nonempty (WS (fun _=>True)):=match hne0 with|⟨x⟩=>⟨⟨x.w,trivial⟩⟩
    refine YT [(0,0),(1,0),(2,0),(3,0),(4,0),(5,0),(6,0),(7,0),(8,0),(9,2),(10,0),(11,0),(12,0),(13,0),(14,2),(15,0),(16,2),(17,2)] 6 rfl ZK (fun _ _ _ _ _ h=>h) hSc hcl ?_
    all_goals
     (try simp only[List.map_cons,List.map_nil,Ld,Le])
     repeat
      first
      |((with_reducible refine YU ?_ ?_);exact rfl;dsimp only;go_big_quiet_step (fail);(try with_reducible refine wpQuiet_nil ?_);(try dsimp only))
      |((with_reducible refine YV ?_ ?_);exact rfl;dsimp only;go_big_quiet_step (fail);(try with_reducible refine wpQuiet_nil ?_);(try dsimp only))
     (try(refine YW ?_;intro hSc hcl))
    all_goals
     refine Y0 [18,19,20,21,22,23] rfl ZK ?_;simp only[List.map_cons,List.map_nil,Ld,Le];rw[HS0.out]at hSc;obtain⟨p0,p1,p2,p3⟩:=hSc;clear hne0 hneT hcl HS0 k0 k1 k2 k3;go_wp2;(first|go_end0|((try simp only[Exit.inBlock,Exit.then]);refine bodyPost_ret (results_none rfl _ _ _) rfl ?_));rw[HF.out];exact⟨rfl,_,_,_,RunO.setA (RunO.setB (RunO.setI (RunO.below H2.out BLN) rfl _) rfl _) rfl _,Kp.setCell (Kp.setCell (Kp.setCell ZP H2.out.di _) H2.out.db _) H2.out.da _⟩
  · as_aux_lemma=>
    obtain⟨d,hd,hdn⟩:=Yae (HM.out (by rw[hop];exact(YaN 10 ZD).resolve_right ZD));rw[hd]at i1;have hdi:(d:Int)<(F.vars.length:Int):=by omega
    have fi:=H2.out.ints.frozenAt d;have fb:=H2.out.bools.frozenAt d;have fa:=H2.out.arrs.frozenAt d;have yi:=Yn H2.out.ints hdn;have yb:=Y9 H2.out.bools hdn;have ya:=Yn H2.out.arrs hdn;obtain⟨q0,q1,q25,q26,q2,q3,q4,q5,q6,q7,q8,q9,q10,-,-,-,-,-,-,-⟩:=Y5 10 ZD HSW.out;have HF:=Lh (show instN 10 s x=s.setB (d:Int) (!p) by rw[← hd];show s.setB x.dst (!s.boo (ith x.args 0))=_;rw[ep.out]);go_wp2;(first|go_end0|((try simp only[Exit.inBlock,Exit.then]);refine bodyPost_ret (results_none rfl _ _ _) rfl ?_));rw[HF.out];exact⟨rfl,_,_,_,RunO.setB (RunO.below H2.out BLN) rfl _,Kp.setCell ZP H2.out.db _⟩
  · as_aux_lemma=>
    by_cases hr0:r<0
    · have HF:=Lh (show instN 12 s x=s.endW 2 from if_pos (by rw[er.out];exact hr0))
      obtain⟨q0,q1,q25,q26,q2,q3,q4,q5,q6,q7,q8,q9,q10,q11,q12,-,-,-,-,-⟩:=Y5 12 ZD HSW.out;go_wp2_with(go_at_call 61;refine(YbI (H2.out.below BLN) 2).mono ?_;rintro e w9 ⟨rfl,hR9,hK9⟩);(first|go_end0|((try simp only[Exit.inBlock,Exit.then]);refine bodyPost_ret (results_none rfl _ _ _) rfl ?_));rw[HF.out];exact⟨rfl,_,_,_,hR9,Kp.trans ZP hK9⟩
    · obtain⟨kr,rfl⟩:=Int.eq_ofNat_of_zero_le (Int.not_lt.1 hr0)
      have hrk:kr<s.rows.length:=by have:=RB.out;omega
      have hrk':(kr:Int)<(s.rows.length:Int):=by omega
      obtain⟨gr,capr,hvr,hgr,-⟩:=Ydr H2.out.arr ZO;have hca':=H2.out.arr;rw[hvr]at hca' x4l;have cr1:=hca'.cellAt kr ZO;rw[List.getElem?_eq_getElem (by rw[H2.out.lens.2.2.2];exact hrk)]at cr1;have hrw:=H2.out.rows kr _ (List.getElem?_eq_getElem (by rw[H2.out.lens.2.2.2];exact hrk));obtain⟨Av,cap,hvx⟩:=Yh hrw;rw[hvx]at cr1;obtain⟨d,hd,hdn⟩:=Yae (HM.out (by rw[hop];exact(YaN 12 ZD).resolve_right ZD));rw[hd]at i1;have hdi:(d:Int)<(F.vars.length:Int):=by omega
      have fi:=H2.out.ints.frozenAt d;have fb:=H2.out.bools.frozenAt d;have fa:=H2.out.arrs.frozenAt d;have yi:=Yn H2.out.ints hdn;have yb:=Y9 H2.out.bools hdn;have ya:=Yn H2.out.arrs hdn;obtain⟨q0,q1,q25,q26,q2,q3,q4,q5,q6,q7,q8,q9,q10,q11,q12,-,-,-,-,-⟩:=Y5 12 ZD HSW.out
      have HF:=Lh (show instN 12 s x=s.setI (d:Int) ((s.rows.getD kr []).length:Int) by
       rw[← hd];refine(if_neg (by rw[er.out];exact hr0)).trans ?_;rw[er.out]
       rfl)
      clear hca' hrw hvx hvr;have hr1:decide ((kr:Int)<0)=false:=decide_eq_false hr0;generalize (s.rows.getD kr []).length=lr at *;go_wp2_with fail;obtain⟨S0,hS0⟩:∃S0:World→Prop,S0=fun w'=>w'.cell? ⟨nb,3,none⟩=some (.slice (some ⟨gi,0,none⟩) F.vars.length F.vars.length)∧w'.cell? ⟨nb,6,none⟩=some (.slice (some ⟨gr,0,none⟩) s.rows.length capr)∧w'.cell? ⟨gr,kr,none⟩=some (.slice Av lr cap)∧nb<w'.heap.size∧gr<w'.heap.size:=⟨_,rfl⟩
      have HS0:=Lh hS0;clear hS0;have k0:=fun xw=>(WS.at HS0 xw).1
      have k1:=fun xw=>(WS.at HS0 xw).2.1
      have k2:=fun xw=>(WS.at HS0 xw).2.2.1
      have k3:=fun xw=>(WS.at HS0 xw).2.2.2.1
      have k4:=fun xw=>(WS.at HS0 xw).2.2.2.2
      refine YZ (S:=S0) [13,14] ZK ?hS (fun hSc hcl=>?_)
      case hS=>
       rw[HS0.out];exact⟨ZI,ZI,ZI,ZJ,ZJ⟩
      have hne0:Nonempty (WS S0):=⟨⟨_,hSc⟩⟩;have hneT:Nonempty (WS (fun _=>True)):=match hne0 with|⟨x⟩=>⟨⟨x.w,trivial⟩⟩
      refine YT [(0,0),(1,0),(2,0),(3,0),(4,0),(5,0),(6,0),(7,0),(8,0),(9,0),(10,0),(11,0),(12,0)] 2 rfl ZK (fun _ _ _ _ _ h=>h) hSc hcl ?_
      all_goals
       (try simp only[List.map_cons,List.map_nil,Ld,Le])
       repeat
        first
        |((with_reducible refine YU ?_ ?_);exact rfl;dsimp only;go_big_quiet_step (fail);(try with_reducible refine wpQuiet_nil ?_);(try dsimp only))
        |((with_reducible refine YV ?_ ?_);exact rfl;dsimp only;go_big_quiet_step (fail);(try with_reducible refine wpQuiet_nil ?_);(try dsimp only))
       (try(refine YW ?_;intro hSc hcl))
      all_goals
       refine Y0 [13,14] rfl ZK ?_;simp only[List.map_cons,List.map_nil,Ld,Le];rw[HS0.out]at hSc;obtain⟨p0,p1,p2,p3,p4⟩:=hSc;clear hne0 hneT hcl HS0 k0 k1 k2 k3 k4;go_wp2;(first|go_end0|((try simp only[Exit.inBlock,Exit.then]);refine bodyPost_ret (results_none rfl _ _ _) rfl ?_));rw[HF.out];exact⟨rfl,_,_,_,RunO.setI (RunO.below H2.out BLN) rfl _,Kp.setCell ZP H2.out.di _⟩
  · as_aux_lemma=>
    by_cases h15:a<0∨64<a
    · have HF:=Lh (show instN 15 s x=s.endW 2 from if_pos (by rw[ea.out];exact h15))
      obtain⟨q0,q1,q25,q26,q2,q3,q4,q5,q6,q7,q8,q9,q10,q11,q12,q13,q14,q15,-,-⟩:=Y5 15 ZD HSW.out;rcases Classical.em (a<0)with h1|h1
      · go_wp2_with(go_at_call 61;refine(YbI (H2.out.below BLN) 2).mono ?_;rintro e w9 ⟨rfl,hR9,hK9⟩)
        (first|go_end0|((try simp only[Exit.inBlock,Exit.then]);refine bodyPost_ret (results_none rfl _ _ _) rfl ?_));rw[HF.out];exact⟨rfl,_,_,_,hR9,Kp.trans ZP hK9⟩
      · have h2:decide (a<0)=false:=decide_eq_false h1
        have h3:64<a:=h15.resolve_left h1;go_wp2_with(go_at_call 61;refine(YbI (H2.out.below BLN) 2).mono ?_;rintro e w9 ⟨rfl,hR9,hK9⟩);(first|go_end0|((try simp only[Exit.inBlock,Exit.then]);refine bodyPost_ret (results_none rfl _ _ _) rfl ?_));rw[HF.out];exact⟨rfl,_,_,_,hR9,Kp.trans ZP hK9⟩
    · obtain⟨m,rfl⟩:=Int.eq_ofNat_of_zero_le (show 0≤a from ZO)
      have hm64:m≤64:=by omega
      have h2:decide ((m:Int)<0)=false:=decide_eq_false ZO;have h3:decide (64<(m:Int))=false:=decide_eq_false ZO;obtain⟨Ar,cr,hvr⟩:=Yh H2.out.arr;have hlr:=HI.out.lr;rw[hvr]at x4l
      by_cases h16:32≤s.rows.length
      · have HF:=Lh (show instN 15 s x=s.endW 3 by
         refine(if_neg (by rw[ea.out];exact h15)).trans ?_
         exact if_pos h16)
        have h17:(32:Int)≤(s.rows.length:Int):=by omega
        obtain⟨q0,q1,q25,q26,q2,q3,q4,q5,q6,q7,q8,q9,q10,q11,q12,q13,q14,q15,-,-⟩:=Y5 15 ZD HSW.out;clear h15;go_wp2_with(go_at_call 61;refine(YbI (H2.out.below BLN) 3).mono ?_;rintro e w9 ⟨rfl,hR9,hK9⟩);(first|go_end0|((try simp only[Exit.inBlock,Exit.then]);refine bodyPost_ret (results_none rfl _ _ _) rfl ?_));rw[HF.out];exact⟨rfl,_,_,_,hR9,Kp.trans ZP hK9⟩
      · have h17:decide ((32:Int)≤(s.rows.length:Int))=false:=decide_eq_false ZO
        obtain⟨d,hd,hdn⟩:=Yae (HM.out (by rw[hop];exact(YaN 15 ZD).resolve_right ZD));rw[hd]at i1;have hdi:(d:Int)<(F.vars.length:Int):=by omega
        have fi:=H2.out.ints.frozenAt d;have fb:=H2.out.bools.frozenAt d;have fa:=H2.out.arrs.frozenAt d;have yi:=Yn H2.out.ints hdn;have yb:=Y9 H2.out.bools hdn;have ya:=Yn H2.out.arrs hdn;obtain⟨q0,q1,q25,q26,q2,q3,q4,q5,q6,q7,q8,q9,q10,q11,q12,q13,q14,q15,-,-⟩:=Y5 15 ZD HSW.out
        have HF:=Lh (show instN 15 s x=(s.addR (List.replicate m 0)).setA (d:Int) s.rows.length by
         rw[← hd];refine(if_neg (by rw[ea.out];exact h15)).trans ((if_neg h16).trans ?_)
         rw[ea.out,Int.toNat_natCast])
        clear h15;obtain⟨ib,hib,hz0,hz1,hz2⟩:=info_parts Tryz.infoI64;have hmk:∀w:World,(Instr.makeSlice 44 (.int .i64 (m:Int)) (.int .i64 (m:Int))).run Tryz.prog w=.ok (.slice (some ⟨w.heap.size,0,none⟩) m m) (w.alloc (.cells (madeCells (Value.int .i64 0).cells (m*ib.size)) 2)):=fun w=>by
         have hr:=run_make (P:=Tryz.prog) w 44 2 ib (.int .i64 0) Tryz.underlying44 hib hz0 .i64 .i64 m m ZO ZO (by rw[hz2];omega) ZO;simp only[Int.toNat_natCast]at hr;exact hr
        rw[hz1]at hmk;simp only[Nat.mul_one,Value.cells]at hmk;subst hvr;have hX1:=fun k=>(bdrewN (Br w9.heap.size w9) k).alloc ZS (.cells (madeCells #[.int .i64 0] m) 2)
        have hown:=fun k=>Yl H2.out.arr (hX1 k)
        have hvn:=fun k=>show((w9.drewN k).alloc (.cells (madeCells #[.int .i64 0] m) 2)).ownsRow 0 2 1 (.slice (some ⟨w9.heap.size,0,none⟩) m m) m ((List.replicate m 0).map (Value.int .i64)) by
         have:=World.ownsRow_lit (base:=0) (e:=2) (size:=1) (w9.drewN k) (madeCells #[.int .i64 0] m) m ZS (by unfold maxLen;omega) (by rw[← Array.length_toList,toList_madeCells_one];simp);simpa[toList_madeCells_one]using this
        have HVN:=Lh hvn;have HX1:=Lh hX1;clear hvn hX1 hd
        go_upto_region 58 with fail
        go_cut[13] (fun s13 wx=>∃A' c' vrs',RunO wx D x0 x1 x2 nb gi gb ga F.vars.length (.slice A' (s.rows.length+1) c') vt vrs' (s.addR (List.replicate m 0))∧Kp D w wx)
        case first=>as_aux_lemma=>
         obtain⟨S0,hS0⟩:∃S0:World→Prop,S0=fun w'=>w'.cell? ⟨nb,6,none⟩=some (.slice Ar s.rows.length cr)∧nb<w'.heap.size:=⟨_,rfl⟩
         have HS0:=Lh hS0;clear hS0;have k0:=fun xw=>(WS.at HS0 xw).1
         have k1:=fun xw=>(WS.at HS0 xw).2
         refine YZ (S:=S0) [8,9,10,11] ZK ?hS (fun hSc hcl=>?_)
         case hS=>
          rw[HS0.out];exact⟨ZI,ZJ⟩
         have hne0:Nonempty (WS S0):=⟨⟨_,hSc⟩⟩;have hneT:Nonempty (WS (fun _=>True)):=match hne0 with|⟨x⟩=>⟨⟨x.w,trivial⟩⟩
         refine YT [(0,2),(1,0),(2,0),(3,0),(4,0),(5,0),(6,1),(7,1)] 4 rfl ZK (fun _ _ _ _ _ h=>h) hSc hcl ?_
         all_goals
          (try simp only[List.map_cons,List.map_nil,Ld,Le])
          repeat
           first
           |((with_reducible refine YU ?_ ?_);exact rfl;dsimp only;go_big_quiet_step (fail);(try with_reducible refine wpQuiet_nil ?_);(try dsimp only))
           |((with_reducible refine YV ?_ ?_);exact rfl;dsimp only;go_big_quiet_step (fail);(try with_reducible refine wpQuiet_nil ?_);(try dsimp only))
           |((with_reducible refine YaI ?_ ?_ (fun K hK=>?_))
             exact rfl;exact rfl;dsimp only;go_simp;(try go_wp2_with(fail));refine hK.out _ _ ?hS (fun hSc=>?_)
             case hS=>
              first
              |exact hSc
              |(rw[HS0.out]at hSc ⊢;obtain⟨p0,p1⟩:=hSc;exact⟨ZC,ZT⟩)
             clear hK K)
          (try(refine YW ?_;intro hSc hcl))
         all_goals
          refine Y0 [8,9,10,11] rfl ZK ?_;simp only[List.map_cons,List.map_nil,Ld,Le];rw[HS0.out]at hSc;obtain⟨p0,p1⟩:=hSc;clear hne0 hneT hcl HS0 k0 k1;go_wp2_with(at_builtin;refine YcA _ rfl _ _ 36 rfl 0 44 24 Tryz.underlying36 Tryz.infoR64 rfl _ s.rows.length _ rfl (hown _) (w9.heap.size+1) ZS (.slice (some ⟨w9.heap.size,0,none⟩) m m) (by rfl) rfl ZO ZD ZO ?_;intro v3 w3 ho3 hg3 hf3;obtain⟨A3,c3,rfl⟩:=Yh ho3;obtain⟨x3,f3,l3⟩:=RunO.grownR (RunO.below H2.out (HX1.out _)) hg3)
          go_meet
          exact⟨_,_,_,RunO.addR H2.out HD.out (HX1.out _) (by rw[List.length_replicate];exact HVN.out _) (fun k e=>by simp only[Value.ownBlock,Option.some.injEq]at e;omega) ho3 hg3 hf3,Kp.setCell (Kp.grown (Kp.alloc (Kp.alloc ZP _) _) hg3 H2.out.dr) H2.out.bs _⟩
        case rest=>as_aux_lemma=>
         obtain⟨A4,c4,vrs4,h4,k4⟩:=hcut;clear HK;have HK:=Lh k4;have y5:=h4.box.cell 5;have y6:=h4.box.cell 6;replace y5:wc.cell? ⟨nb,5,none⟩=some (.slice (some ⟨ga,0,none⟩) F.vars.length F.vars.length):=y5;replace y6:wc.cell? ⟨nb,6,none⟩=some (.slice A4 (s.rows.length+1) c4):=y6;have yl:=h4.box.lt;have gal4:=(h4.arrs.lt ga rfl).2;have ya4:=Yn h4.arrs hdn;have fa4:=h4.arrs.frozenAt d;have H4:=Lh h4;clear h4 k4 hown hmk HVN HX1;go_wp2_with fail;obtain⟨S0,hS0⟩:∃S0:World→Prop,S0=fun w'=>w'.cell? ⟨nb,5,none⟩=some (.slice (some ⟨ga,0,none⟩) F.vars.length F.vars.length)∧w'.cell? ⟨nb,6,none⟩=some (.slice A4 (s.rows.length+1) c4)∧nb<w'.heap.size:=⟨_,rfl⟩
         have HS0:=Lh hS0;clear hS0;have k0:=fun xw=>(WS.at HS0 xw).1
         have k1:=fun xw=>(WS.at HS0 xw).2.1
         have k2:=fun xw=>(WS.at HS0 xw).2.2
         refine YZ (S:=S0) [11,12] ZK ?hS (fun hSc hcl=>?_)
         case hS=>
          rw[HS0.out];exact⟨ZI,ZI,ZJ⟩
         have hne0:Nonempty (WS S0):=⟨⟨_,hSc⟩⟩;have hneT:Nonempty (WS (fun _=>True)):=match hne0 with|⟨x⟩=>⟨⟨x.w,trivial⟩⟩
         refine YT [(0,0),(1,0),(2,0),(3,0),(4,0),(5,0),(6,0),(7,0),(8,0),(9,0),(10,0)] 2 rfl ZK (fun _ _ _ _ _ h=>h) hSc hcl ?_
         all_goals
          (try simp only[List.map_cons,List.map_nil,Ld,Le])
          repeat
           first
           |((with_reducible refine YU ?_ ?_);exact rfl;dsimp only;go_big_quiet_step (fail);(try with_reducible refine wpQuiet_nil ?_);(try dsimp only))
           |((with_reducible refine YV ?_ ?_);exact rfl;dsimp only;go_big_quiet_step (fail);(try with_reducible refine wpQuiet_nil ?_);(try dsimp only))
          (try(refine YW ?_;intro hSc hcl))
         all_goals
          refine Y0 [11,12] rfl ZK ?_;simp only[List.map_cons,List.map_nil,Ld,Le];rw[HS0.out]at hSc;obtain⟨p0,p1,p2⟩:=hSc;clear hne0 hneT hcl HS0 k0 k1 k2;go_wp2;(first|go_end0|((try simp only[Exit.inBlock,Exit.then]);refine bodyPost_ret (results_none rfl _ _ _) rfl ?_));rw[HF.out];exact⟨rfl,_,_,_,RunO.setA (w:=wc.drew) (j:=d) (RunO.below H4.out (Below.drew (Br _ _))) rfl _,Kp.setCell (w:=wc.drew) (p:=⟨ga,d,none⟩) (Kp.drew HK.out) H4.out.da _⟩
  · as_aux_lemma=>
    obtain⟨At,ct,rfl⟩:=Yh H2.out.tr;have x12:=H2.out.box.cell 12;replace x12:w9.cell? ⟨nb,12,none⟩=some (.slice At s.trace.length ct):=x12;have f12:=H2.out.box.frozen 12;have hlt:=HI.out.lt;have hown:=fun m=>Yl H2.out.tr (bdrewN (Br w9.heap.size w9) m)
    by_cases h16:4096≤s.trace.length
    · have HF:=Lh (show instN 17 s x=s.endW 3 from if_pos h16)
      have h17:(4096:Int)≤(s.trace.length:Int):=by omega
      obtain⟨q0,q1,q25,q26,q2,q3,q4,q5,q6,q7,q8,q9,q10,q11,q12,q13,q14,q15,q16,q17⟩:=Y5 17 ZD HSW.out;go_wp2_with(go_at_call 61;refine(YbI (H2.out.below BLN) 3).mono ?_;rintro e w9 ⟨rfl,hR9,hK9⟩);(first|go_end0|((try simp only[Exit.inBlock,Exit.then]);refine bodyPost_ret (results_none rfl _ _ _) rfl ?_));rw[HF.out];exact⟨rfl,_,_,_,hR9,Kp.trans ZP hK9⟩
    · have HF:=Lh (show instN 17 s x=s.addT a by rw[← ea.out];exact if_neg h16)
      have h17:decide ((4096:Int)≤(s.trace.length:Int))=false:=decide_eq_false ZO;obtain⟨q0,q1,q25,q26,q2,q3,q4,q5,q6,q7,q8,q9,q10,q11,q12,q13,q14,q15,q16,q17⟩:=Y5 17 ZD HSW.out;go_wp2_with(at_builtin;refine YcA _ rfl _ _ 44 rfl 0 2 8 Tryz.underlying44 Tryz.infoI64 rfl _ s.trace.length _ rfl (hown _) _ rfl (.int .i64 a) (by rfl) rfl ZO ZD ZO ?_;intro v3 w3 ho3 hg3 hf3;obtain⟨A3,c3,rfl⟩:=Yh ho3;obtain⟨x3,f3,l3⟩:=RunO.grownT (RunO.below H2.out BLN) hg3);(first|go_end0|((try simp only[Exit.inBlock,Exit.then]);refine bodyPost_ret (results_none rfl _ _ _) rfl ?_));rw[HF.out];exact⟨rfl,_,_,_,RunO.addT (RunO.below H2.out BLN) (by simpa using HD.out) ho3 hg3 hf3,Kp.setCell (Kp.grown (Kp.alloc ZP _) hg3 H2.out.dt) H2.out.bs _⟩
end
end Go.Proofs.YthhjlbflpjhahaaGreatDoor
