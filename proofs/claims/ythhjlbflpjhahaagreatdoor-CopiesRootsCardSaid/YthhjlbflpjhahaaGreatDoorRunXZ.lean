/- The walk of inst of the document's run: operations of two arguments or more. -/
import Derived.Test.YthhjlbflpjhahaaGreatDoorRunSZ
namespace Go.Proofs.YthhjlbflpjhahaaGreatDoor
open Go.RowKit
set_option maxRecDepth 100000
section
variable {W w:World} {D:Nat→Prop} {nb gi gb ga:Nat} {x0 x1 x2 vr vt:Value} {vrs:List Value} {s:RSt} {F:PFunc} {x:PInst} {Aa:Option Addr} {ca o:Nat}
set_option maxHeartbeats 16000000 in
theorem Yo7(hI:RInv F s)(hop:x.op=(o:Int))(ho:o<27)(hgrp:2≤x.args.length)(hno:¬(18≤o∧o≤24))(hx:Yj F x=true)(hA:Rd W.heap.size Aa x.args 1 (Yi W))(hlen:Len x.args.length)(hW:Below W.heap.size W w)
 (h:RunO w D x0 x1 x2 nb gi gb ga F.vars.length vr vt vrs s) (hD:∀k,D k→k<w.heap.size) :
 Calls Tryz.prog 60 #[.pointer (some ⟨nb,0,none⟩),.agg #[.int .i64 (o:Int),.int .i64 x.dst,.slice Aa x.args.length ca,.int .i64 x.num]] w fun e w'=>e=.returned (.tuple #[])∧Yc1 w D x0 x1 x2 nb gi gb ga F.vars.length (instN o s x) w':=by
 obtain⟨hv,hl,hm⟩:=YaR hx;have hck:=fun w=>Ye1 (w:=w) o ho
 rw[if_neg hno]at hck;have hlen':(1:Int)<(x.args.length:Int):=by omega
 have hlen0:(0:Int)<(x.args.length:Int):=by omega
 have hgs:=Ynn o ho (by rw[hop]at hl;omega) hno;simp only[List.mem_cons,List.not_mem_nil,or_false]at hgs;clear hno;unfold Len at hlen;obtain⟨sW,HSW⟩:∃sW,Hid (sW=bs (kindAt o).1):=⟨_,rfl⟩;have HL:=Lh hl;have HM:=Lh hm;have HX:=Lh hx;have HV:=Lh hv;have HI:=Lh hI;clear hl hm hx hv hI;go_enter Tryz.func60,Tryz.ntmps60
 go_upto_region 1 with fail
 go_cut[4] (fun s4 wx=>s4=.string sW∧Below (w.heap.size+1) (w.alloc (.cells #[.int .i64 (o:Int),.int .i64 x.dst,.slice Aa x.args.length ca,.int .i64 x.num] 67)) wx)
 case first=>as_aux_lemma=>
  obtain⟨S0,hS0⟩:∃S0:World→Prop,S0=fun w'=>w'.cell? ⟨w.heap.size,0,none⟩=some (.int .i64 (o:Int))∧Below (w.heap.size+1) (w.alloc (.cells #[.int .i64 (o:Int),.int .i64 x.dst,.slice Aa x.args.length ca,.int .i64 x.num] 67)) w'∧w.heap.size<w'.heap.size:=⟨_,rfl⟩
  have HS0:=Lh hS0;clear hS0;have k0:=fun xw=>(WS.at HS0 xw).1
  have k1:=fun xw=>(WS.at HS0 xw).2.1
  have k2:=fun xw=>(WS.at HS0 xw).2.2
  refine YeD (S:=S0) [(1,false),(2,false),(0,true),(3,false),(4,false),(5,true),(6,false)] ZK ZK (fun _ _ _ _ _ h=>h) ?hS (fun hSc=>?_)
  case hS=>
   rw[HS0.out];exact⟨ZI,BL,ZJ⟩
  have hne0:Nonempty (WS S0):=⟨⟨_,hSc⟩⟩;simp only[List.map_cons,List.map_nil,Ld,Le]
  repeat
   first
   |((with_reducible refine YeE ?_ ?_);exact rfl;dsimp only;go_big_quiet_step (fail);(try with_reducible refine wpQuiet_nil ?_);(try dsimp only))
   |((with_reducible refine YeF ?_ ?_ (fun K hK=>?_))
     exact rfl;exact rfl;dsimp only;go_simp;(try go_wp2_with(go_at_call 76;refine Ybl.mono ?_;rintro e w9 ⟨rfl,hR9,hz9,hb9⟩;obtain⟨hc9,hf9⟩:=Yb hb9;obtain⟨hr0,hr1,hr2⟩:=hR9 o ho;try simp at hz9;try simp only[heap_drew,World.size_alloc]at hr0 hr1 hr2;rw[← HSW.out]at hr0));refine hK.out _ _ ?hS (fun hSc=>?_)
     case hS=>
      first
      |exact hSc
      |(rw[HS0.out]at hSc ⊢;obtain⟨p0,p1,p2⟩:=hSc;exact⟨ZC0,ZL1,ZT2⟩)
      |(rw[HS0.out]at hSc ⊢;obtain⟨p0,p1,p2⟩:=hSc;exact⟨ZC,BL,ZT⟩)
     clear hK K)
  refine YeG ?_;rw[HS0.out]at hSc;obtain⟨p0,p1,p2⟩:=hSc;clear hne0 HS0 k0 k1 k2;go_wp2_with fail
  go_meet
  exact⟨rfl,BL⟩
 case rest=>as_aux_lemma=>
  obtain⟨rfl,hbc⟩:=hcut;obtain⟨i8,ix⟩:=YbE hbc;have i0:wc.cell? ⟨w.heap.size,0,none⟩=some (.int .i64 (o:Int)):=ix 0;have i1:wc.cell? ⟨w.heap.size,1,none⟩=some (.int .i64 x.dst):=ix 1;have i2:wc.cell? ⟨w.heap.size,2,none⟩=some (.slice Aa x.args.length ca):=ix 2;have i3:wc.cell? ⟨w.heap.size,3,none⟩=some (.int .i64 x.num):=ix 3;have hBc:Below w.heap.size w wc:=((Br _ _).alloc (Nr _) _).trans (hbc.mono (Nat.le_succ _));have hWc:=hW.trans (hBc.mono hW.size);have h2:=h.below hBc;have HK:=Lh (Kp.below (D:=D) hBc (fun k _ hk=>hD k hk));have HD:=Lh (show ∀k,D k→k<wc.heap.size from fun k hk=>Nt (hD k hk) hBc.size);obtain⟨k0,b0,off0,e0,n0,ha0,hb0,c0⟩:=Yc2 HV.out hA hWc (i:=0) ZO;replace c0:wc.cell? ⟨b0,off0,none⟩=some (.int .i64 (k0:Int)):=c0;obtain⟨k1,b1,off1,e1,n1,ha1,hb1,c1⟩:=Yc2 HV.out hA hWc (i:=1) ZO;have ha1':=ha1;rw[ha0]at ha1';simp only[Option.some.injEq,Addr.mk.injEq,and_true]at ha1';obtain⟨rfl,rfl⟩:=ha1';have xl:=h2.box.lt;have x1l:=h2.box.cell 3;have x2l:=h2.box.cell 4;have x3l:=h2.box.cell 5;have x4l:=h2.box.cell 6;replace x1l:wc.cell? ⟨nb,3,none⟩=some (.slice (some ⟨gi,0,none⟩) F.vars.length F.vars.length):=x1l;replace x2l:wc.cell? ⟨nb,4,none⟩=some (.slice (some ⟨gb,0,none⟩) F.vars.length F.vars.length):=x2l;replace x3l:wc.cell? ⟨nb,5,none⟩=some (.slice (some ⟨ga,0,none⟩) F.vars.length F.vars.length):=x3l;replace x4l:wc.cell? ⟨nb,6,none⟩=some vr:=x4l;have gil:=(h2.ints.lt gi rfl).2;have gbl:=(h2.bools.lt gb rfl).2;have gal:=(h2.arrs.lt ga rfl).2;have H2:=Lh h2;have a0:=Yn h2.ints n0;have p0:=Y9 h2.bools n0;have r0:=Yn h2.arrs n0;have ea:Hid (s.int (ith x.args 0)=ith s.ints k0):=by rw[e0];rfl
  have ep:Hid (s.boo (ith x.args 0)=s.bools.getD k0 false):=by rw[e0];rfl
  have er:Hid (s.arr (ith x.args 0)=ith s.arrs k0):=by rw[e0];rfl
  have k0l:(k0:Int)<(F.vars.length:Int):=by omega
  have RB:=Lh (show ith s.arrs k0<(s.rows.length:Int)from HI.out.arr (v:=(k0:Int)) rfl n0);have a1:=Yn h2.ints n1;have p1:=Y9 h2.bools n1;have eb:Hid (s.int (ith x.args 1)=ith s.ints k1):=by rw[e1];rfl
  have eq:Hid (s.boo (ith x.args 1)=s.bools.getD k1 false):=by rw[e1];rfl
  have k1l:(k1:Int)<(F.vars.length:Int):=by omega
  clear h h2 ix hbc e0 e1;rw[ha0]at i2;rw[ha0]at hA;clear ha0 ha1;generalize ith s.ints k0=a at a0 ea;generalize s.bools.getD k0 false=p at p0 ep;generalize ith s.arrs k0=r at r0 er RB;generalize ith s.ints k1=b at a1 eb;generalize s.bools.getD k1 false=q at p1 eq;go_wp2_with(go_at_call 88;refine(hck _).mono ?_;rintro e w9 ⟨rfl,rfl⟩)
  go_quiet (fail)
  go_wp2
  go_quiet (fail)
  rcases hgs with rfl|rfl|rfl|rfl|rfl|rfl|rfl|rfl|rfl|rfl|rfl|rfl|rfl
  · as_aux_lemma=>
    obtain⟨d,hd,hdn⟩:=Yae (HM.out (by rw[hop];exact(YaN 2 ZD).resolve_right ZD));rw[hd]at i1;have hdi:(d:Int)<(F.vars.length:Int):=by omega
    have fi:=H2.out.ints.frozenAt d;have fb:=H2.out.bools.frozenAt d;have fa:=H2.out.arrs.frozenAt d;have yi:=Yn H2.out.ints hdn;have yb:=Y9 H2.out.bools hdn;have ya:=Yn H2.out.arrs hdn;obtain⟨q0,q1,q25,q26,q2,-,-,-,-,-,-,-,-,-,-,-,-,-,-,-⟩:=Y5 2 ZD HSW.out;have HF:=Lh (show instN 2 s x=s.setI (d:Int) (wrap64 (a+b)) by rw[← hd];show s.setI x.dst (wrap64 (s.int (ith x.args 0)+s.int (ith x.args 1)))=_;rw[ea.out,eb.out]);go_wp2_with fail;obtain⟨S0,hS0⟩:∃S0:World→Prop,S0=fun w'=>w'.cell? ⟨nb,3,none⟩=some (.slice (some ⟨gi,0,none⟩) F.vars.length F.vars.length)∧w'.cell? ⟨w.heap.size,0,none⟩=some (.int .i64 2)∧nb<w'.heap.size∧w.heap.size<w'.heap.size:=⟨_,rfl⟩
    have HS0:=Lh hS0;clear hS0;have k0:=fun xw=>(WS.at HS0 xw).1
    have k1:=fun xw=>(WS.at HS0 xw).2.1
    have k2:=fun xw=>(WS.at HS0 xw).2.2.1
    have k3:=fun xw=>(WS.at HS0 xw).2.2.2
    refine YZ (S:=S0) [11,12] ZK ?hS (fun hSc hcl=>?_)
    case hS=>
     rw[HS0.out];exact⟨ZI,ZI,ZJ,ZJ⟩
    have hne0:Nonempty (WS S0):=⟨⟨_,hSc⟩⟩;have hneT:Nonempty (WS (fun _=>True)):=match hne0 with|⟨x⟩=>⟨⟨x.w,trivial⟩⟩
    refine YT [(0,0),(1,0),(2,0),(3,0),(4,0),(5,0),(6,0),(7,0),(8,0),(9,0),(10,1)] 2 rfl ZK (fun _ _ _ _ _ h=>h) hSc hcl ?_
    all_goals
     (try simp only[List.map_cons,List.map_nil,Ld,Le])
     repeat
      first
      |((with_reducible refine YU ?_ ?_);exact rfl;dsimp only;go_big_quiet_step (fail);(try with_reducible refine wpQuiet_nil ?_);(try dsimp only))
      |((with_reducible refine YV ?_ ?_);exact rfl;dsimp only;go_big_quiet_step (fail);(try with_reducible refine wpQuiet_nil ?_);(try dsimp only))
      |((with_reducible refine YaI ?_ ?_ (fun K hK=>?_))
        exact rfl;exact rfl;dsimp only;go_simp;(try go_wp2_with(go_at_call 90;refine(Ynb _ _).mono ?_;rintro e w9 ⟨rfl,rfl⟩));refine hK.out _ _ ?hS (fun hSc=>?_)
        case hS=>
         first
         |exact hSc
         |(rw[HS0.out]at hSc ⊢;obtain⟨p0,p1,p2,p3⟩:=hSc;exact⟨ZC0,ZC1,ZT2,ZT3⟩)
        clear hK K)
     (try(refine YW ?_;intro hSc hcl))
    all_goals
     refine Y0 [11,12] rfl ZK ?_;simp only[List.map_cons,List.map_nil,Ld,Le];rw[HS0.out]at hSc;obtain⟨p0,p1,p2,p3⟩:=hSc;clear hne0 hneT hcl HS0 k0 k1 k2 k3;go_wp2;(first|go_end0|((try simp only[Exit.inBlock,Exit.then]);refine bodyPost_ret (results_none rfl _ _ _) rfl ?_));rw[HF.out];exact⟨rfl,_,_,_,RunO.setI (RunO.below H2.out BLN) rfl _,Kp.setCell ZP H2.out.di _⟩
  · as_aux_lemma=>
    obtain⟨d,hd,hdn⟩:=Yae (HM.out (by rw[hop];exact(YaN 3 ZD).resolve_right ZD));rw[hd]at i1;have hdi:(d:Int)<(F.vars.length:Int):=by omega
    have fi:=H2.out.ints.frozenAt d;have fb:=H2.out.bools.frozenAt d;have fa:=H2.out.arrs.frozenAt d;have yi:=Yn H2.out.ints hdn;have yb:=Y9 H2.out.bools hdn;have ya:=Yn H2.out.arrs hdn;obtain⟨q0,q1,q25,q26,q2,q3,-,-,-,-,-,-,-,-,-,-,-,-,-,-⟩:=Y5 3 ZD HSW.out;have HF:=Lh (show instN 3 s x=s.setI (d:Int) (wrap64 (a-b)) by rw[← hd];show s.setI x.dst (wrap64 (s.int (ith x.args 0)-s.int (ith x.args 1)))=_;rw[ea.out,eb.out]);go_wp2_with fail;obtain⟨S0,hS0⟩:∃S0:World→Prop,S0=fun w'=>w'.cell? ⟨nb,3,none⟩=some (.slice (some ⟨gi,0,none⟩) F.vars.length F.vars.length)∧w'.cell? ⟨w.heap.size,0,none⟩=some (.int .i64 3)∧nb<w'.heap.size∧w.heap.size<w'.heap.size:=⟨_,rfl⟩
    have HS0:=Lh hS0;clear hS0;have k0:=fun xw=>(WS.at HS0 xw).1
    have k1:=fun xw=>(WS.at HS0 xw).2.1
    have k2:=fun xw=>(WS.at HS0 xw).2.2.1
    have k3:=fun xw=>(WS.at HS0 xw).2.2.2
    refine YZ (S:=S0) [11,12] ZK ?hS (fun hSc hcl=>?_)
    case hS=>
     rw[HS0.out];exact⟨ZI,ZI,ZJ,ZJ⟩
    have hne0:Nonempty (WS S0):=⟨⟨_,hSc⟩⟩;have hneT:Nonempty (WS (fun _=>True)):=match hne0 with|⟨x⟩=>⟨⟨x.w,trivial⟩⟩
    refine YT [(0,0),(1,0),(2,0),(3,0),(4,0),(5,0),(6,0),(7,0),(8,0),(9,0),(10,1)] 2 rfl ZK (fun _ _ _ _ _ h=>h) hSc hcl ?_
    all_goals
     (try simp only[List.map_cons,List.map_nil,Ld,Le])
     repeat
      first
      |((with_reducible refine YU ?_ ?_);exact rfl;dsimp only;go_big_quiet_step (fail);(try with_reducible refine wpQuiet_nil ?_);(try dsimp only))
      |((with_reducible refine YV ?_ ?_);exact rfl;dsimp only;go_big_quiet_step (fail);(try with_reducible refine wpQuiet_nil ?_);(try dsimp only))
      |((with_reducible refine YaI ?_ ?_ (fun K hK=>?_))
        exact rfl;exact rfl;dsimp only;go_simp;(try go_wp2_with(go_at_call 90;refine(Ync _ _).mono ?_;rintro e w9 ⟨rfl,rfl⟩));refine hK.out _ _ ?hS (fun hSc=>?_)
        case hS=>
         first
         |exact hSc
         |(rw[HS0.out]at hSc ⊢;obtain⟨p0,p1,p2,p3⟩:=hSc;exact⟨ZC0,ZC1,ZT2,ZT3⟩)
        clear hK K)
     (try(refine YW ?_;intro hSc hcl))
    all_goals
     refine Y0 [11,12] rfl ZK ?_;simp only[List.map_cons,List.map_nil,Ld,Le];rw[HS0.out]at hSc;obtain⟨p0,p1,p2,p3⟩:=hSc;clear hne0 hneT hcl HS0 k0 k1 k2 k3;go_wp2;(first|go_end0|((try simp only[Exit.inBlock,Exit.then]);refine bodyPost_ret (results_none rfl _ _ _) rfl ?_));rw[HF.out];exact⟨rfl,_,_,_,RunO.setI (RunO.below H2.out BLN) rfl _,Kp.setCell ZP H2.out.di _⟩
  · as_aux_lemma=>
    obtain⟨d,hd,hdn⟩:=Yae (HM.out (by rw[hop];exact(YaN 4 ZD).resolve_right ZD));rw[hd]at i1;have hdi:(d:Int)<(F.vars.length:Int):=by omega
    have fi:=H2.out.ints.frozenAt d;have fb:=H2.out.bools.frozenAt d;have fa:=H2.out.arrs.frozenAt d;have yi:=Yn H2.out.ints hdn;have yb:=Y9 H2.out.bools hdn;have ya:=Yn H2.out.arrs hdn;obtain⟨q0,q1,q25,q26,q2,q3,q4,-,-,-,-,-,-,-,-,-,-,-,-,-⟩:=Y5 4 ZD HSW.out;have HF:=Lh (show instN 4 s x=s.setI (d:Int) (wrap64 (a*b)) by rw[← hd];show s.setI x.dst (wrap64 (s.int (ith x.args 0)*s.int (ith x.args 1)))=_;rw[ea.out,eb.out]);go_wp2_with fail;obtain⟨S0,hS0⟩:∃S0:World→Prop,S0=fun w'=>w'.cell? ⟨nb,3,none⟩=some (.slice (some ⟨gi,0,none⟩) F.vars.length F.vars.length)∧w'.cell? ⟨w.heap.size,0,none⟩=some (.int .i64 4)∧nb<w'.heap.size∧w.heap.size<w'.heap.size:=⟨_,rfl⟩
    have HS0:=Lh hS0;clear hS0;have k0:=fun xw=>(WS.at HS0 xw).1
    have k1:=fun xw=>(WS.at HS0 xw).2.1
    have k2:=fun xw=>(WS.at HS0 xw).2.2.1
    have k3:=fun xw=>(WS.at HS0 xw).2.2.2
    refine YZ (S:=S0) [11,12] ZK ?hS (fun hSc hcl=>?_)
    case hS=>
     rw[HS0.out];exact⟨ZI,ZI,ZJ,ZJ⟩
    have hne0:Nonempty (WS S0):=⟨⟨_,hSc⟩⟩;have hneT:Nonempty (WS (fun _=>True)):=match hne0 with|⟨x⟩=>⟨⟨x.w,trivial⟩⟩
    refine YT [(0,0),(1,0),(2,0),(3,0),(4,0),(5,0),(6,0),(7,0),(8,0),(9,0),(10,1)] 2 rfl ZK (fun _ _ _ _ _ h=>h) hSc hcl ?_
    all_goals
     (try simp only[List.map_cons,List.map_nil,Ld,Le])
     repeat
      first
      |((with_reducible refine YU ?_ ?_);exact rfl;dsimp only;go_big_quiet_step (fail);(try with_reducible refine wpQuiet_nil ?_);(try dsimp only))
      |((with_reducible refine YV ?_ ?_);exact rfl;dsimp only;go_big_quiet_step (fail);(try with_reducible refine wpQuiet_nil ?_);(try dsimp only))
      |((with_reducible refine YaI ?_ ?_ (fun K hK=>?_))
        exact rfl;exact rfl;dsimp only;go_simp;(try go_wp2_with(go_at_call 90;refine(Ynd _ _).mono ?_;rintro e w9 ⟨rfl,rfl⟩));refine hK.out _ _ ?hS (fun hSc=>?_)
        case hS=>
         first
         |exact hSc
         |(rw[HS0.out]at hSc ⊢;obtain⟨p0,p1,p2,p3⟩:=hSc;exact⟨ZC0,ZC1,ZT2,ZT3⟩)
        clear hK K)
     (try(refine YW ?_;intro hSc hcl))
    all_goals
     refine Y0 [11,12] rfl ZK ?_;simp only[List.map_cons,List.map_nil,Ld,Le];rw[HS0.out]at hSc;obtain⟨p0,p1,p2,p3⟩:=hSc;clear hne0 hneT hcl HS0 k0 k1 k2 k3;go_wp2;(first|go_end0|((try simp only[Exit.inBlock,Exit.then]);refine bodyPost_ret (results_none rfl _ _ _) rfl ?_));rw[HF.out];exact⟨rfl,_,_,_,RunO.setI (RunO.below H2.out BLN) rfl _,Kp.setCell ZP H2.out.di _⟩
  · as_aux_lemma=>
    by_cases hb0':b=0
    · have HF:=Lh (show instN 5 s x=s.endW 2 from if_pos (eb.out.trans hb0'))
      subst hb0';obtain⟨q0,q1,q25,q26,q2,q3,q4,q5,-,-,-,-,-,-,-,-,-,-,-,-⟩:=Y5 5 ZD HSW.out;go_wp2_with(go_at_call 61;refine(YbI (H2.out.below BLN) 2).mono ?_;rintro e w9 ⟨rfl,hR9,hK9⟩);(first|go_end0|((try simp only[Exit.inBlock,Exit.then]);refine bodyPost_ret (results_none rfl _ _ _) rfl ?_));rw[HF.out];exact⟨rfl,_,_,_,hR9,Kp.trans ZP hK9⟩
    · have hbn:(b==0)=false:=by rw[beq_eq_false_iff_ne];exact hb0'
      obtain⟨d,hd,hdn⟩:=Yae (HM.out (by rw[hop];exact(YaN 5 ZD).resolve_right ZD));rw[hd]at i1;have hdi:(d:Int)<(F.vars.length:Int):=by omega
      have fi:=H2.out.ints.frozenAt d;have fb:=H2.out.bools.frozenAt d;have fa:=H2.out.arrs.frozenAt d;have yi:=Yn H2.out.ints hdn;have yb:=Y9 H2.out.bools hdn;have ya:=Yn H2.out.arrs hdn;obtain⟨q0,q1,q25,q26,q2,q3,q4,q5,q6,-,-,-,-,-,-,-,-,-,-,-⟩:=Y5 5 ZD HSW.out;have HF:=Lh (show instN 5 s x=s.setI (d:Int) (Ycn a b) by rw[← hd,← ea.out,← eb.out];exact if_neg (fun e=>hb0' (eb.out.symm.trans e)));go_wp2_with(go_at_call 91;refine(Yil _ _ hb0').mono ?_;rintro e w9 ⟨rfl,m9,rfl⟩);(first|go_end0|((try simp only[Exit.inBlock,Exit.then]);refine bodyPost_ret (results_none rfl _ _ _) rfl ?_));rw[HF.out];exact⟨rfl,_,_,_,RunO.setI (RunO.below H2.out BLN) rfl _,Kp.setCell ZP H2.out.di _⟩
  · as_aux_lemma=>
    by_cases hb0':b=0
    · have HF:=Lh (show instN 6 s x=s.endW 2 from if_pos (eb.out.trans hb0'))
      subst hb0';obtain⟨q0,q1,q25,q26,q2,q3,q4,q5,q6,-,-,-,-,-,-,-,-,-,-,-⟩:=Y5 6 ZD HSW.out;go_wp2_with(go_at_call 61;refine(YbI (H2.out.below BLN) 2).mono ?_;rintro e w9 ⟨rfl,hR9,hK9⟩);(first|go_end0|((try simp only[Exit.inBlock,Exit.then]);refine bodyPost_ret (results_none rfl _ _ _) rfl ?_));rw[HF.out];exact⟨rfl,_,_,_,hR9,Kp.trans ZP hK9⟩
    · have hbn:(b==0)=false:=by rw[beq_eq_false_iff_ne];exact hb0'
      obtain⟨d,hd,hdn⟩:=Yae (HM.out (by rw[hop];exact(YaN 6 ZD).resolve_right ZD));rw[hd]at i1;have hdi:(d:Int)<(F.vars.length:Int):=by omega
      have fi:=H2.out.ints.frozenAt d;have fb:=H2.out.bools.frozenAt d;have fa:=H2.out.arrs.frozenAt d;have yi:=Yn H2.out.ints hdn;have yb:=Y9 H2.out.bools hdn;have ya:=Yn H2.out.arrs hdn;obtain⟨q0,q1,q25,q26,q2,q3,q4,q5,q6,-,-,-,-,-,-,-,-,-,-,-⟩:=Y5 6 ZD HSW.out;have HF:=Lh (show instN 6 s x=s.setI (d:Int) (Yco a b) by rw[← hd,← ea.out,← eb.out];exact if_neg (fun e=>hb0' (eb.out.symm.trans e)));go_wp2_with(go_at_call 91;refine(Yil _ _ hb0').mono ?_;rintro e w9 ⟨rfl,m9,rfl⟩);(first|go_end0|((try simp only[Exit.inBlock,Exit.then]);refine bodyPost_ret (results_none rfl _ _ _) rfl ?_));rw[HF.out];exact⟨rfl,_,_,_,RunO.setI (RunO.below H2.out BLN) rfl _,Kp.setCell ZP H2.out.di _⟩
  · as_aux_lemma=>
    obtain⟨d,hd,hdn⟩:=Yae (HM.out (by rw[hop];exact(YaN 7 ZD).resolve_right ZD));rw[hd]at i1;have hdi:(d:Int)<(F.vars.length:Int):=by omega
    have fi:=H2.out.ints.frozenAt d;have fb:=H2.out.bools.frozenAt d;have fa:=H2.out.arrs.frozenAt d;have yi:=Yn H2.out.ints hdn;have yb:=Y9 H2.out.bools hdn;have ya:=Yn H2.out.arrs hdn;obtain⟨q0,q1,q25,q26,q2,q3,q4,q5,q6,q7,-,-,-,-,-,-,-,-,-,-⟩:=Y5 7 ZD HSW.out;have HF:=Lh (show instN 7 s x=s.setB (d:Int) (a==b) by rw[← hd];show s.setB x.dst (s.int (ith x.args 0)==s.int (ith x.args 1))=_;rw[ea.out,eb.out]);go_wp2;(first|go_end0|((try simp only[Exit.inBlock,Exit.then]);refine bodyPost_ret (results_none rfl _ _ _) rfl ?_));rw[HF.out];exact⟨rfl,_,_,_,RunO.setB (RunO.below H2.out BLN) rfl _,Kp.setCell ZP H2.out.db _⟩
  · as_aux_lemma=>
    obtain⟨d,hd,hdn⟩:=Yae (HM.out (by rw[hop];exact(YaN 8 ZD).resolve_right ZD));rw[hd]at i1;have hdi:(d:Int)<(F.vars.length:Int):=by omega
    have fi:=H2.out.ints.frozenAt d;have fb:=H2.out.bools.frozenAt d;have fa:=H2.out.arrs.frozenAt d;have yi:=Yn H2.out.ints hdn;have yb:=Y9 H2.out.bools hdn;have ya:=Yn H2.out.arrs hdn;obtain⟨q0,q1,q25,q26,q2,q3,q4,q5,q6,q7,q8,-,-,-,-,-,-,-,-,-⟩:=Y5 8 ZD HSW.out;have HF:=Lh (show instN 8 s x=s.setB (d:Int) (decide (a<b)) by rw[← hd];show s.setB x.dst (decide (s.int (ith x.args 0)<s.int (ith x.args 1)))=_;rw[ea.out,eb.out]);go_wp2;(first|go_end0|((try simp only[Exit.inBlock,Exit.then]);refine bodyPost_ret (results_none rfl _ _ _) rfl ?_));rw[HF.out];exact⟨rfl,_,_,_,RunO.setB (RunO.below H2.out BLN) rfl _,Kp.setCell ZP H2.out.db _⟩
  · as_aux_lemma=>
    obtain⟨d,hd,hdn⟩:=Yae (HM.out (by rw[hop];exact(YaN 9 ZD).resolve_right ZD));rw[hd]at i1;have hdi:(d:Int)<(F.vars.length:Int):=by omega
    have fi:=H2.out.ints.frozenAt d;have fb:=H2.out.bools.frozenAt d;have fa:=H2.out.arrs.frozenAt d;have yi:=Yn H2.out.ints hdn;have yb:=Y9 H2.out.bools hdn;have ya:=Yn H2.out.arrs hdn;obtain⟨q0,q1,q25,q26,q2,q3,q4,q5,q6,q7,q8,q9,-,-,-,-,-,-,-,-⟩:=Y5 9 ZD HSW.out;have HF:=Lh (show instN 9 s x=s.setB (d:Int) (decide (a≤b)) by rw[← hd];show s.setB x.dst (decide (s.int (ith x.args 0)≤s.int (ith x.args 1)))=_;rw[ea.out,eb.out]);go_wp2;(first|go_end0|((try simp only[Exit.inBlock,Exit.then]);refine bodyPost_ret (results_none rfl _ _ _) rfl ?_));rw[HF.out];exact⟨rfl,_,_,_,RunO.setB (RunO.below H2.out BLN) rfl _,Kp.setCell ZP H2.out.db _⟩
  · as_aux_lemma=>
    obtain⟨d,hd,hdn⟩:=Yae (HM.out (by rw[hop];exact(YaN 11 ZD).resolve_right ZD));rw[hd]at i1;have hdi:(d:Int)<(F.vars.length:Int):=by omega
    have fi:=H2.out.ints.frozenAt d;have fb:=H2.out.bools.frozenAt d;have fa:=H2.out.arrs.frozenAt d;have yi:=Yn H2.out.ints hdn;have yb:=Y9 H2.out.bools hdn;have ya:=Yn H2.out.arrs hdn;obtain⟨q0,q1,q25,q26,q2,q3,q4,q5,q6,q7,q8,q9,q10,q11,-,-,-,-,-,-⟩:=Y5 11 ZD HSW.out;have HF:=Lh (show instN 11 s x=s.setB (d:Int) (p&&q) by rw[← hd];show s.setB x.dst (s.boo (ith x.args 0)&&s.boo (ith x.args 1))=_;rw[ep.out,eq.out]);cases p
    · go_wp2
      (first|go_end0|((try simp only[Exit.inBlock,Exit.then]);refine bodyPost_ret (results_none rfl _ _ _) rfl ?_));rw[HF.out];exact⟨rfl,_,_,_,RunO.setB (RunO.below H2.out BLN) rfl _,Kp.setCell ZP H2.out.db _⟩
    · go_wp2
      (first|go_end0|((try simp only[Exit.inBlock,Exit.then]);refine bodyPost_ret (results_none rfl _ _ _) rfl ?_));rw[HF.out];exact⟨rfl,_,_,_,RunO.setB (RunO.below H2.out BLN) rfl _,Kp.setCell ZP H2.out.db _⟩
  · as_aux_lemma=>
    by_cases hp:s.placeB r b=true
    · obtain⟨kr,j,g,cap,gr,capr,rfl,rfl,hk1,hj1,hvr,hgr,cr1,hvs,hgl,cr2,fg⟩:=Yip H2.out hp
      obtain⟨d,hd,hdn⟩:=Yae (HM.out (by rw[hop];exact(YaN 13 ZD).resolve_right ZD));rw[hd]at i1;have hdi:(d:Int)<(F.vars.length:Int):=by omega
      have fi:=H2.out.ints.frozenAt d;have fb:=H2.out.bools.frozenAt d;have fa:=H2.out.arrs.frozenAt d;have yi:=Yn H2.out.ints hdn;have yb:=Y9 H2.out.bools hdn;have ya:=Yn H2.out.arrs hdn;obtain⟨q0,q1,q25,q26,q2,q3,q4,q5,q6,q7,q8,q9,q10,q11,q12,q13,-,-,-,-⟩:=Y5 13 ZD HSW.out
      have HF:=Lh (show instN 13 s x=s.setI (d:Int) (ith (s.row (kr:Int)) j) by
       rw[← hd];refine(if_pos (by rw[er.out,eb.out];exact hp)).trans ?_
       rw[er.out,eb.out,Int.toNat_natCast])
      have HP:=Lh hp;rw[hvr]at x4l;clear hp hvs hvr;generalize ith (s.row (kr:Int)) j=z at *;generalize (s.row (kr:Int)).length=lr at *;go_wp2_with(go_at_call 92;refine(Yec (H2.out.below BLN) _ _).mono ?_;rw[HP.out];rintro e w9 ⟨rfl,rfl⟩);obtain⟨S0,hS0⟩:∃S0:World→Prop,S0=fun w'=>w'.cell? ⟨nb,3,none⟩=some (.slice (some ⟨gi,0,none⟩) F.vars.length F.vars.length)∧w'.cell? ⟨nb,6,none⟩=some (.slice (some ⟨gr,0,none⟩) s.rows.length capr)∧w'.cell? ⟨gr,kr,none⟩=some (.slice (some ⟨g,0,none⟩) lr cap)∧w'.cell? ⟨g,j,none⟩=some (.int .i64 z)∧nb<w'.heap.size∧gr<w'.heap.size∧g<w'.heap.size:=⟨_,rfl⟩
      have HS0:=Lh hS0;clear hS0;have k0:=fun xw=>(WS.at HS0 xw).1
      have k1:=fun xw=>(WS.at HS0 xw).2.1
      have k2:=fun xw=>(WS.at HS0 xw).2.2.1
      have k3:=fun xw=>(WS.at HS0 xw).2.2.2.1
      have k4:=fun xw=>(WS.at HS0 xw).2.2.2.2.1
      have k5:=fun xw=>(WS.at HS0 xw).2.2.2.2.2.1
      have k6:=fun xw=>(WS.at HS0 xw).2.2.2.2.2.2
      refine YZ (S:=S0) [15,16] ZK ?hS (fun hSc hcl=>?_)
      case hS=>
       rw[HS0.out];exact⟨ZI,ZI,ZI,ZI,ZJ,ZJ,ZJ⟩
      have hne0:Nonempty (WS S0):=⟨⟨_,hSc⟩⟩;have hneT:Nonempty (WS (fun _=>True)):=match hne0 with|⟨x⟩=>⟨⟨x.w,trivial⟩⟩
      refine YT [(0,0),(1,0),(2,0),(3,0),(4,0),(5,0),(6,0),(7,0),(8,0),(9,0),(10,0),(11,0),(12,0),(13,0),(14,0)] 2 rfl ZK (fun _ _ _ _ _ h=>h) hSc hcl ?_
      all_goals
       (try simp only[List.map_cons,List.map_nil,Ld,Le])
       repeat
        first
        |((with_reducible refine YU ?_ ?_);exact rfl;dsimp only;go_big_quiet_step (fail);(try with_reducible refine wpQuiet_nil ?_);(try dsimp only))
        |((with_reducible refine YV ?_ ?_);exact rfl;dsimp only;go_big_quiet_step (fail);(try with_reducible refine wpQuiet_nil ?_);(try dsimp only))
       (try(refine YW ?_;intro hSc hcl))
      all_goals
       refine Y0 [15,16] rfl ZK ?_;simp only[List.map_cons,List.map_nil,Ld,Le];rw[HS0.out]at hSc;obtain⟨p0,p1,p2,p3,p4,p5,p6⟩:=hSc;clear hne0 hneT hcl HS0 k0 k1 k2 k3 k4 k5 k6;go_wp2;(first|go_end0|((try simp only[Exit.inBlock,Exit.then]);refine bodyPost_ret (results_none rfl _ _ _) rfl ?_));rw[HF.out];exact⟨rfl,_,_,_,RunO.setI (RunO.below H2.out BLN) rfl _,Kp.setCell ZP H2.out.di _⟩
    · have hpf:s.placeB r b=false:=by cases e:s.placeB r b<;>simp_all
      have HF:=Lh (show instN 13 s x=s.endW 2 from if_neg (by rw[er.out,eb.out];exact hp));obtain⟨q0,q1,q25,q26,q2,q3,q4,q5,q6,q7,q8,q9,q10,q11,q12,q13,-,-,-,-⟩:=Y5 13 ZD HSW.out;have HP:=Lh hpf;clear hp hpf;go_wp2_with(first|(go_at_call 92;refine(Yec (H2.out.below BLN) _ _).mono ?_;rw[HP.out];rintro e w9 ⟨rfl,rfl⟩)|(go_at_call 61;refine(YbI (H2.out.below BLN) 2).mono ?_;rintro e w9 ⟨rfl,hR9,hK9⟩));(first|go_end0|((try simp only[Exit.inBlock,Exit.then]);refine bodyPost_ret (results_none rfl _ _ _) rfl ?_));rw[HF.out];exact⟨rfl,_,_,_,hR9,Kp.trans ZP hK9⟩
  · as_aux_lemma=>
    have hl3:x.args.length=3:=by rw[HL.out,hop];exact Ynq
    obtain⟨kz,b2,off2,e2,n2,ha2,hb2,c2⟩:=Yc2 HV.out hA hWc (i:=2) ZO;cases ha2;have a2:=Yn H2.out.ints n2;have ec:Hid (s.int (ith x.args 2)=ith s.ints kz):=by rw[e2];rfl
    have kzl:(kz:Int)<(F.vars.length:Int):=by omega
    have hl2:(2:Int)<(x.args.length:Int):=by omega
    generalize ith s.ints kz=c at a2 ec
    by_cases hp:s.placeB r b=true
    · obtain⟨kr,j,g,cap,gr,capr,rfl,rfl,hk1,hj1,hvr,hgr,cr1,hvs,hgl,cr2,fg⟩:=Yip H2.out hp
      obtain⟨q0,q1,q25,q26,q2,q3,q4,q5,q6,q7,q8,q9,q10,q11,q12,q13,q14,-,-,-⟩:=Y5 14 ZD HSW.out
      have HF:=Lh (show instN 14 s x=s.setR (kr:Int) (j:Int) c by
       refine(if_pos (by rw[er.out,eb.out];exact hp)).trans ?_
       rw[er.out,eb.out,ec.out])
      have HP:=Lh hp;have HVS:=Lh hvs;rw[hvr]at x4l;clear hp hvs hvr;have HDV:=Lh (H2.out.dv kr _ g HVS.out rfl);generalize (s.row (kr:Int)).length=lr at *;go_wp2_with(go_at_call 92;refine(Yec (H2.out.below BLN) _ _).mono ?_;rw[HP.out];rintro e w9 ⟨rfl,rfl⟩);obtain⟨S0,hS0⟩:∃S0:World→Prop,S0=fun w'=>w'.cell? ⟨nb,3,none⟩=some (.slice (some ⟨gi,0,none⟩) F.vars.length F.vars.length)∧w'.cell? ⟨nb,6,none⟩=some (.slice (some ⟨gr,0,none⟩) s.rows.length capr)∧w'.cell? ⟨gr,kr,none⟩=some (.slice (some ⟨g,0,none⟩) lr cap)∧w'.cell? ⟨gi,kz,none⟩=some (.int .i64 c)∧w'.cell? ⟨b0,off0+2,none⟩=some (.int .i64 (kz:Int))∧nb<w'.heap.size∧gr<w'.heap.size∧gi<w'.heap.size∧b0<w'.heap.size:=⟨_,rfl⟩
      have HS0:=Lh hS0;clear hS0;have k0:=fun xw=>(WS.at HS0 xw).1
      have k1:=fun xw=>(WS.at HS0 xw).2.1
      have k2:=fun xw=>(WS.at HS0 xw).2.2.1
      have k3:=fun xw=>(WS.at HS0 xw).2.2.2.1
      have k4:=fun xw=>(WS.at HS0 xw).2.2.2.2.1
      have k5:=fun xw=>(WS.at HS0 xw).2.2.2.2.2.1
      have k6:=fun xw=>(WS.at HS0 xw).2.2.2.2.2.2.1
      have k7:=fun xw=>(WS.at HS0 xw).2.2.2.2.2.2.2.1
      have k8:=fun xw=>(WS.at HS0 xw).2.2.2.2.2.2.2.2
      refine YZ (S:=S0) [17,18] ZK ?hS (fun hSc hcl=>?_)
      case hS=>
       rw[HS0.out];exact⟨ZI,ZI,ZI,ZI,ZI,ZJ,ZJ,ZJ,ZJ⟩
      have hne0:Nonempty (WS S0):=⟨⟨_,hSc⟩⟩;have hneT:Nonempty (WS (fun _=>True)):=match hne0 with|⟨x⟩=>⟨⟨x.w,trivial⟩⟩
      refine YT [(0,0),(1,0),(2,0),(3,0),(4,0),(5,0),(6,0),(7,0),(8,0),(9,0),(10,0),(11,0),(12,0),(13,0),(14,0),(15,0),(16,0)] 2 rfl ZK (fun _ _ _ _ _ h=>h) hSc hcl ?_
      all_goals
       (try simp only[List.map_cons,List.map_nil,Ld,Le])
       repeat
        first
        |((with_reducible refine YU ?_ ?_);exact rfl;dsimp only;go_big_quiet_step (fail);(try with_reducible refine wpQuiet_nil ?_);(try dsimp only))
        |((with_reducible refine YV ?_ ?_);exact rfl;dsimp only;go_big_quiet_step (fail);(try with_reducible refine wpQuiet_nil ?_);(try dsimp only))
       (try(refine YW ?_;intro hSc hcl))
      all_goals
       refine Y0 [17,18] rfl ZK ?_;simp only[List.map_cons,List.map_nil,Ld,Le];rw[HS0.out]at hSc;obtain⟨p0,p1,p2,p3,p4,p5,p6,p7,p8⟩:=hSc;clear hne0 hneT hcl HS0 k0 k1 k2 k3 k4 k5 k6 k7 k8;go_wp2;(first|go_end0|((try simp only[Exit.inBlock,Exit.then]);refine bodyPost_ret (results_none rfl _ _ _) rfl ?_));rw[HF.out];exact⟨rfl,_,_,_,RunO.setR (RunO.below H2.out BLN) HVS.out rfl rfl rfl _,Kp.setCell ZP HDV.out _⟩
    · have hpf:s.placeB r b=false:=by cases e:s.placeB r b<;>simp_all
      have HF:=Lh (show instN 14 s x=s.endW 2 from if_neg (by rw[er.out,eb.out];exact hp));obtain⟨q0,q1,q25,q26,q2,q3,q4,q5,q6,q7,q8,q9,q10,q11,q12,q13,q14,-,-,-⟩:=Y5 14 ZD HSW.out;have HP:=Lh hpf;clear hp hpf;go_wp2_with(first|(go_at_call 92;refine(Yec (H2.out.below BLN) _ _).mono ?_;rw[HP.out];rintro e w9 ⟨rfl,rfl⟩)|(go_at_call 61;refine(YbI (H2.out.below BLN) 2).mono ?_;rintro e w9 ⟨rfl,hR9,hK9⟩));(first|go_end0|((try simp only[Exit.inBlock,Exit.then]);refine bodyPost_ret (results_none rfl _ _ _) rfl ?_));rw[HF.out];exact⟨rfl,_,_,_,hR9,Kp.trans ZP hK9⟩
  · as_aux_lemma=>
    obtain⟨d,hd,hdn⟩:=Yae (HM.out (by rw[hop];exact(YaN 25 ZD).resolve_right ZD));rw[hd]at i1;have hdi:(d:Int)<(F.vars.length:Int):=by omega
    have fi:=H2.out.ints.frozenAt d;have fb:=H2.out.bools.frozenAt d;have fa:=H2.out.arrs.frozenAt d;have yi:=Yn H2.out.ints hdn;have yb:=Y9 H2.out.bools hdn;have ya:=Yn H2.out.arrs hdn;obtain⟨q0,q1,q25,-,-,-,-,-,-,-,-,-,-,-,-,-,-,-,-,-⟩:=Y5 25 ZD HSW.out;have HF:=Lh (show instN 25 s x=((s.setI (d:Int) a).setB (d:Int) p).setA (d:Int) r by rw[← hd];show((s.setI x.dst (s.int (ith x.args 0))).setB x.dst (s.boo (ith x.args 0))).setA x.dst (s.arr (ith x.args 0))=_;rw[ea.out,ep.out,er.out]);have u1:gb≠gi:=fun e=>Yp H2.out.ints H2.out.bools ZD rfl (by rw[e];rfl)
    have u2:ga≠gi:=fun e=>Yp H2.out.ints H2.out.arrs ZD rfl (by rw[e];rfl)
    have u3:ga≠gb:=fun e=>Yp H2.out.bools H2.out.arrs ZD rfl (by rw[e];rfl)
    have v1:=u1.symm;have v2:=u2.symm;have v3:=u3.symm;go_wp2_with fail;obtain⟨S0,hS0⟩:∃S0:World→Prop,S0=fun w'=>w'.cell? ⟨nb,3,none⟩=some (.slice (some ⟨gi,0,none⟩) F.vars.length F.vars.length)∧w'.cell? ⟨nb,4,none⟩=some (.slice (some ⟨gb,0,none⟩) F.vars.length F.vars.length)∧w'.cell? ⟨nb,5,none⟩=some (.slice (some ⟨ga,0,none⟩) F.vars.length F.vars.length)∧nb<w'.heap.size:=⟨_,rfl⟩
    have HS0:=Lh hS0;clear hS0;have k0:=fun xw=>(WS.at HS0 xw).1
    have k1:=fun xw=>(WS.at HS0 xw).2.1
    have k2:=fun xw=>(WS.at HS0 xw).2.2.1
    have k3:=fun xw=>(WS.at HS0 xw).2.2.2
    refine YZ (S:=S0) [18,19,20,21,22,23] ZK ?hS (fun hSc hcl=>?_)
    case hS=>
     rw[HS0.out];exact⟨ZI,ZI,ZI,ZJ⟩
    have hne0:Nonempty (WS S0):=⟨⟨_,hSc⟩⟩;have hneT:Nonempty (WS (fun _=>True)):=match hne0 with|⟨x⟩=>⟨⟨x.w,trivial⟩⟩
    refine YT [(0,0),(1,0),(2,0),(3,0),(4,0),(5,0),(6,0),(7,0),(8,0),(9,2),(10,0),(11,0),(12,0),(13,0),(14,2),(15,0),(16,2),(17,2)] 6 rfl ZK (fun _ _ _ _ _ h=>h) hSc hcl ?_
    all_goals
     (try simp only[List.map_cons,List.map_nil,Ld,Le])
     repeat
      first
      |((with_reducible refine YU ?_ ?_);exact rfl;dsimp only;go_big_quiet_step (fail);(try with_reducible refine wpQuiet_nil ?_);(try dsimp only))
      |((with_reducible refine YV ?_ ?_);exact rfl;dsimp only;go_big_quiet_step (fail);(try with_reducible refine wpQuiet_nil ?_);(try dsimp only))
     (try(refine YW ?_;intro hSc hcl))
    all_goals
     refine Y0 [18,19,20,21,22,23] rfl ZK ?_;simp only[List.map_cons,List.map_nil,Ld,Le];rw[HS0.out]at hSc;obtain⟨p0,p1,p2,p3⟩:=hSc;clear hne0 hneT hcl HS0 k0 k1 k2 k3;go_wp2;(first|go_end0|((try simp only[Exit.inBlock,Exit.then]);refine bodyPost_ret (results_none rfl _ _ _) rfl ?_));rw[HF.out];exact⟨rfl,_,_,_,RunO.setA (RunO.setB (RunO.setI (RunO.below H2.out BLN) rfl _) rfl _) rfl _,Kp.setCell (Kp.setCell (Kp.setCell ZP H2.out.di _) H2.out.db _) H2.out.da _⟩
  · as_aux_lemma=>
    obtain⟨d,hd,hdn⟩:=Yae (HM.out (by rw[hop];exact(YaN 26 ZD).resolve_right ZD));rw[hd]at i1;have hdi:(d:Int)<(F.vars.length:Int):=by omega
    have fi:=H2.out.ints.frozenAt d;have fb:=H2.out.bools.frozenAt d;have fa:=H2.out.arrs.frozenAt d;have yi:=Yn H2.out.ints hdn;have yb:=Y9 H2.out.bools hdn;have ya:=Yn H2.out.arrs hdn;obtain⟨q0,q1,q25,q26,-,-,-,-,-,-,-,-,-,-,-,-,-,-,-,-⟩:=Y5 26 ZD HSW.out;have HF:=Lh (show instN 26 s x=((s.setI (d:Int) a).setB (d:Int) p).setA (d:Int) r by rw[← hd];show((s.setI x.dst (s.int (ith x.args 0))).setB x.dst (s.boo (ith x.args 0))).setA x.dst (s.arr (ith x.args 0))=_;rw[ea.out,ep.out,er.out]);have u1:gb≠gi:=fun e=>Yp H2.out.ints H2.out.bools ZD rfl (by rw[e];rfl)
    have u2:ga≠gi:=fun e=>Yp H2.out.ints H2.out.arrs ZD rfl (by rw[e];rfl)
    have u3:ga≠gb:=fun e=>Yp H2.out.bools H2.out.arrs ZD rfl (by rw[e];rfl)
    have v1:=u1.symm;have v2:=u2.symm;have v3:=u3.symm;go_wp2_with fail;obtain⟨S0,hS0⟩:∃S0:World→Prop,S0=fun w'=>w'.cell? ⟨nb,3,none⟩=some (.slice (some ⟨gi,0,none⟩) F.vars.length F.vars.length)∧w'.cell? ⟨nb,4,none⟩=some (.slice (some ⟨gb,0,none⟩) F.vars.length F.vars.length)∧w'.cell? ⟨nb,5,none⟩=some (.slice (some ⟨ga,0,none⟩) F.vars.length F.vars.length)∧nb<w'.heap.size:=⟨_,rfl⟩
    have HS0:=Lh hS0;clear hS0;have k0:=fun xw=>(WS.at HS0 xw).1
    have k1:=fun xw=>(WS.at HS0 xw).2.1
    have k2:=fun xw=>(WS.at HS0 xw).2.2.1
    have k3:=fun xw=>(WS.at HS0 xw).2.2.2
    refine YZ (S:=S0) [18,19,20,21,22,23] ZK ?hS (fun hSc hcl=>?_)
    case hS=>
     rw[HS0.out];exact⟨ZI,ZI,ZI,ZJ⟩
    have hne0:Nonempty (WS S0):=⟨⟨_,hSc⟩⟩;have hneT:Nonempty (WS (fun _=>True)):=match hne0 with|⟨x⟩=>⟨⟨x.w,trivial⟩⟩
    refine YT [(0,0),(1,0),(2,0),(3,0),(4,0),(5,0),(6,0),(7,0),(8,0),(9,2),(10,0),(11,0),(12,0),(13,0),(14,2),(15,0),(16,2),(17,2)] 6 rfl ZK (fun _ _ _ _ _ h=>h) hSc hcl ?_
    all_goals
     (try simp only[List.map_cons,List.map_nil,Ld,Le])
     repeat
      first
      |((with_reducible refine YU ?_ ?_);exact rfl;dsimp only;go_big_quiet_step (fail);(try with_reducible refine wpQuiet_nil ?_);(try dsimp only))
      |((with_reducible refine YV ?_ ?_);exact rfl;dsimp only;go_big_quiet_step (fail);(try with_reducible refine wpQuiet_nil ?_);(try dsimp only))
     (try(refine YW ?_;intro hSc hcl))
    all_goals
     refine Y0 [18,19,20,21,22,23] rfl ZK ?_;simp only[List.map_cons,List.map_nil,Ld,Le];rw[HS0.out]at hSc;obtain⟨p0,p1,p2,p3⟩:=hSc;clear hne0 hneT hcl HS0 k0 k1 k2 k3;go_wp2;(first|go_end0|((try simp only[Exit.inBlock,Exit.then]);refine bodyPost_ret (results_none rfl _ _ _) rfl ?_));rw[HF.out];exact⟨rfl,_,_,_,RunO.setA (RunO.setB (RunO.setI (RunO.below H2.out BLN) rfl _) rfl _) rfl _,Kp.setCell (Kp.setCell (Kp.setCell ZP H2.out.di _) H2.out.db _) H2.out.da _⟩
end
end Go.Proofs.YthhjlbflpjhahaaGreatDoor
