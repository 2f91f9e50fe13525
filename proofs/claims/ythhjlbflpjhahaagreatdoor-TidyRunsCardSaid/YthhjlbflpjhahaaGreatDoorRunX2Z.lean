/- The walk of inst of the document's run: operations of no argument. -/
import Derived.Test.YthhjlbflpjhahaaGreatDoorRunSZ
namespace Go.Proofs.YthhjlbflpjhahaaGreatDoor
open Go.RowKit
set_option maxRecDepth 100000
section
variable {W w:World} {D:Nat→Prop} {nb gi gb ga:Nat} {x0 x1 x2 vr vt:Value} {vrs:List Value} {s:RSt} {F:PFunc} {x:PInst} {Aa:Option Addr} {ca o:Nat}
set_option maxHeartbeats 16000000 in
theorem inst0_calls(hop:x.op=(o:Int))(ho:o<27)(hgrp:x.args.length=0)(hx:instB F x=true)(hW:Below W.heap.size W w)
 (h:RunO w D x0 x1 x2 nb gi gb ga F.vars.length vr vt vrs s) (hD:∀k,D k→k<w.heap.size) :
 Calls Tryz.prog 60 #[.pointer (some ⟨nb,0,none⟩),.agg #[.int .i64 (o:Int),.int .i64 x.dst,.slice Aa x.args.length ca,.int .i64 x.num]] w fun e w'=>e=.returned (.tuple #[])∧StepO w D x0 x1 x2 nb gi gb ga F.vars.length (instN o s x) w':=by
 obtain⟨hv,hl,hm⟩:=instB_parts hx;have hck:=fun w=>check_calls (w:=w) o ho
 have hgs:=grp0 o ho (by rw[hop]at hl;omega);rw[if_neg ZO]at hck;have hlen':decide ((1:Int)<(x.args.length:Int))=false:=decide_eq_false ZO;have hlen0:decide ((0:Int)<(x.args.length:Int))=false:=decide_eq_false ZO;have hln':decide (1<x.args.length)=false:=decide_eq_false ZO;have hln0:decide (0<x.args.length)=false:=decide_eq_false ZO;clear hgrp;obtain⟨sW,HSW⟩:∃sW,Hid (sW=bs (kindAt o).1):=⟨_,rfl⟩;have HL:=Lh hl;have HM:=Lh hm;have HX:=Lh hx;have HV:=Lh hv;clear hl hm hx hv;go_enter Tryz.func60,Tryz.ntmps60
 go_upto_region 1 with fail
 go_cut[4] (fun s4 wx=>s4=.string sW∧Below (w.heap.size+1) (w.alloc (.cells #[.int .i64 (o:Int),.int .i64 x.dst,.slice Aa x.args.length ca,.int .i64 x.num] 67)) wx)
 case first=>as_aux_lemma=>
  obtain⟨S0,hS0⟩:∃S0:World→Prop,S0=fun w'=>w'.cell? ⟨w.heap.size,0,none⟩=some (.int .i64 (o:Int))∧Below (w.heap.size+1) (w.alloc (.cells #[.int .i64 (o:Int),.int .i64 x.dst,.slice Aa x.args.length ca,.int .i64 x.num] 67)) w'∧w.heap.size<w'.heap.size:=⟨_,rfl⟩
  have HS0:=Lh hS0;clear hS0;have k0:=fun xw=>(WS.at HS0 xw).1
  have k1:=fun xw=>(WS.at HS0 xw).2.1
  have k2:=fun xw=>(WS.at HS0 xw).2.2
  refine wp_region_schedF (S:=S0) [(1,false),(2,false),(0,true),(3,false),(4,false),(5,true),(6,false)] ZK ZK (fun _ _ _ _ _ h=>h) ?hS (fun hSc=>?_)
  case hS=>
   rw[HS0.out];exact⟨ZI,BL,ZJ⟩
  have hne0:Nonempty (WS S0):=⟨⟨_,hSc⟩⟩;simp only[List.map_cons,List.map_nil,Ld,Le]
  repeat
   first
   |((with_reducible refine wpSchF_lk ?_ ?_);exact rfl;dsimp only;go_big_quiet_step (fail);(try with_reducible refine wpQuiet_nil ?_);(try dsimp only))
   |((with_reducible refine wpSchF_at ?_ ?_ (fun K hK=>?_))
     exact rfl;exact rfl;dsimp only;go_simp;(try go_wp2_with(go_at_call 76;refine rows2_calls.mono ?_;rintro e w9 ⟨rfl,hR9,hz9,hb9⟩;obtain⟨hc9,hf9⟩:=bcell hb9;obtain⟨hr0,hr1,hr2⟩:=hR9 o ho;try simp at hz9;try simp only[heap_drew,World.size_alloc]at hr0 hr1 hr2;rw[← HSW.out]at hr0));refine hK.out _ _ ?hS (fun hSc=>?_)
     case hS=>
      first
      |exact hSc
      |(rw[HS0.out]at hSc ⊢;obtain⟨p0,p1,p2⟩:=hSc;exact⟨ZC0,ZL1,ZT2⟩)
      |(rw[HS0.out]at hSc ⊢;obtain⟨p0,p1,p2⟩:=hSc;exact⟨ZC,BL,ZT⟩)
     clear hK K)
  refine wpSchF_nil ?_;rw[HS0.out]at hSc;obtain⟨p0,p1,p2⟩:=hSc;clear hne0 HS0 k0 k1 k2;go_wp2_with fail
  go_meet
  exact⟨rfl,BL⟩
 case rest=>as_aux_lemma=>
  obtain⟨rfl,hbc⟩:=hcut;obtain⟨i8,ix⟩:=boxN hbc;have i0:wc.cell? ⟨w.heap.size,0,none⟩=some (.int .i64 (o:Int)):=ix 0;have i1:wc.cell? ⟨w.heap.size,1,none⟩=some (.int .i64 x.dst):=ix 1;have i2:wc.cell? ⟨w.heap.size,2,none⟩=some (.slice Aa x.args.length ca):=ix 2;have i3:wc.cell? ⟨w.heap.size,3,none⟩=some (.int .i64 x.num):=ix 3;have hBc:Below w.heap.size w wc:=((Br _ _).alloc (Nr _) _).trans (hbc.mono (Nat.le_succ _));have hWc:=hW.trans (hBc.mono hW.size);have h2:=h.below hBc;have HK:=Lh (Kp.below (D:=D) hBc (fun k _ hk=>hD k hk));have HD:=Lh (show ∀k,D k→k<wc.heap.size from fun k hk=>Nt (hD k hk) hBc.size);have xl:=h2.box.lt;have x1l:=h2.box.cell 3;have x2l:=h2.box.cell 4;have x3l:=h2.box.cell 5;have x4l:=h2.box.cell 6;replace x1l:wc.cell? ⟨nb,3,none⟩=some (.slice (some ⟨gi,0,none⟩) F.vars.length F.vars.length):=x1l;replace x2l:wc.cell? ⟨nb,4,none⟩=some (.slice (some ⟨gb,0,none⟩) F.vars.length F.vars.length):=x2l;replace x3l:wc.cell? ⟨nb,5,none⟩=some (.slice (some ⟨ga,0,none⟩) F.vars.length F.vars.length):=x3l;replace x4l:wc.cell? ⟨nb,6,none⟩=some vr:=x4l;have gil:=(h2.ints.lt gi rfl).2;have gbl:=(h2.bools.lt gb rfl).2;have gal:=(h2.arrs.lt ga rfl).2;have H2:=Lh h2;clear h h2 ix hbc;rcases hgs with rfl|rfl
  · as_aux_lemma=>
    obtain⟨d,hd,hdn⟩:=inB_nat (HM.out (by rw[hop];exact(make_facts 0 ZD).resolve_right ZD));rw[hd]at i1;have hdi:(d:Int)<(F.vars.length:Int):=by omega
    have fi:=H2.out.ints.frozenAt d;have fb:=H2.out.bools.frozenAt d;have fa:=H2.out.arrs.frozenAt d;have yi:=own_ibx H2.out.ints hdn;have yb:=own_boo H2.out.bools hdn;have ya:=own_ibx H2.out.arrs hdn;obtain⟨q0,-,-,-,-,-,-,-,-,-,-,-,-,-,-,-,-,-,-,-⟩:=words 0 ZD HSW.out;have HF:=Lh (show instN 0 s x=s.setI (d:Int) x.num by rw[← hd];rfl);go_wp2_with(go_at_call 88;refine(hck _).mono ?_;rintro e w9 ⟨rfl,rfl⟩);obtain⟨S0,hS0⟩:∃S0:World→Prop,S0=fun w'=>w'.cell? ⟨nb,3,none⟩=some (.slice (some ⟨gi,0,none⟩) F.vars.length F.vars.length)∧w'.cell? ⟨w.heap.size,3,none⟩=some (.int .i64 x.num)∧nb<w'.heap.size∧w.heap.size<w'.heap.size:=⟨_,rfl⟩
    have HS0:=Lh hS0;clear hS0;have k0:=fun xw=>(WS.at HS0 xw).1
    have k1:=fun xw=>(WS.at HS0 xw).2.1
    have k2:=fun xw=>(WS.at HS0 xw).2.2.1
    have k3:=fun xw=>(WS.at HS0 xw).2.2.2
    refine wp_region_treeE (S:=S0) [7,8] ZK ?hS (fun hSc hcl=>?_)
    case hS=>
     rw[HS0.out];exact⟨ZI,ZI,ZJ,ZJ⟩
    have hne0:Nonempty (WS S0):=⟨⟨_,hSc⟩⟩;have hneT:Nonempty (WS (fun _=>True)):=match hne0 with|⟨x⟩=>⟨⟨x.w,trivial⟩⟩
    refine wpTreeE_run [(0,0),(1,0),(2,0),(3,0),(4,0),(5,0),(6,0)] 2 rfl ZK (fun _ _ _ _ _ h=>h) hSc hcl ?_
    all_goals
     (try simp only[List.map_cons,List.map_nil,Ld,Le])
     repeat
      first
      |((with_reducible refine wpSch3_lk ?_ ?_);exact rfl;dsimp only;go_big_quiet_step (fail);(try with_reducible refine wpQuiet_nil ?_);(try dsimp only))
      |((with_reducible refine wpSch3_fr ?_ ?_);exact rfl;dsimp only;go_big_quiet_step (fail);(try with_reducible refine wpQuiet_nil ?_);(try dsimp only))
     (try(refine wpSch3_nil ?_;intro hSc hcl))
    all_goals
     refine wpTreeE_end [7,8] rfl ZK ?_;simp only[List.map_cons,List.map_nil,Ld,Le];rw[HS0.out]at hSc;obtain⟨p0,p1,p2,p3⟩:=hSc;clear hne0 hneT hcl HS0 k0 k1 k2 k3;go_wp2;(first|go_end0|((try simp only[Exit.inBlock,Exit.then]);refine bodyPost_ret (results_none rfl _ _ _) rfl ?_));rw[HF.out];exact⟨rfl,_,_,_,RunO.setI (w:=w9.drew) (j:=d) (RunO.below H2.out (Below.drew (Br _ _))) rfl _,Kp.setCell (w:=w9.drew) (p:=⟨gi,d,none⟩) (Kp.drew HK.out) H2.out.di _⟩
  · as_aux_lemma=>
    obtain⟨d,hd,hdn⟩:=inB_nat (HM.out (by rw[hop];exact(make_facts 16 ZD).resolve_right ZD));rw[hd]at i1;have hdi:(d:Int)<(F.vars.length:Int):=by omega
    have fi:=H2.out.ints.frozenAt d;have fb:=H2.out.bools.frozenAt d;have fa:=H2.out.arrs.frozenAt d;have yi:=own_ibx H2.out.ints hdn;have yb:=own_boo H2.out.bools hdn;have ya:=own_ibx H2.out.arrs hdn;obtain⟨q0,q1,q25,q26,q2,q3,q4,q5,q6,q7,q8,q9,q10,q11,q12,q13,q14,q15,q16,-⟩:=words 16 ZD HSW.out;have HF:=Lh (show instN 16 s x=s.setA (d:Int) (-1) by rw[← hd];rfl);go_wp2_with(go_at_call 88;refine(hck _).mono ?_;rintro e w9 ⟨rfl,rfl⟩);(first|go_end0|((try simp only[Exit.inBlock,Exit.then]);refine bodyPost_ret (results_none rfl _ _ _) rfl ?_));rw[HF.out];exact⟨rfl,_,_,_,RunO.setA (RunO.below H2.out BLN) rfl _,Kp.setCell ZP H2.out.da _⟩
end
theorem grpC2:∀n:Nat,n<27→2≤(takesOf (n:Int)).length→(18≤n∧n≤24)→n∈[18,21,22,23]:=by decide +kernel
theorem grpC1:∀n:Nat,n<27→¬2≤(takesOf (n:Int)).length→(18≤n∧n≤24)→n∈[19,20,24]:=by decide +kernel
theorem takesC:∀n:Nat,n<27→(18≤n∧n≤24)→1≤(takesOf (n:Int)).length:=by decide +kernel
section
variable {W w:World} {D:Nat→Prop} {nb gi gb ga:Nat} {x0 x1 x2 vr vt:Value} {vrs:List Value} {s:RSt} {F:PFunc} {x:PInst} {Aa:Option Addr} {ca o:Nat}
set_option maxHeartbeats 8000000 in
theorem passes2_calls(hI:RInv F s)(hop:x.op=(o:Int))(ho:o<27)(hgrp:2≤x.args.length)(hc:18≤o∧o≤24)(hx:instB F x=true)(hA:Rd W.heap.size Aa x.args 1 (IntC W))(hlen:Len x.args.length)(hW:Below W.heap.size W w)
 (h:RunO w D x0 x1 x2 nb gi gb ga F.vars.length vr vt vrs s) :
 Calls Tryz.prog 89 #[.pointer (some ⟨nb,0,none⟩),.string (bs (kindAt o).1),.slice Aa x.args.length ca] w fun e w'=>e=.returned (.bool (passN o s x))∧∃m,w'=w.drewN m:=by
 obtain⟨hv,hl,-⟩:=instB_parts hx;have hlen':(1:Int)<(x.args.length:Int):=by omega
 have hlen0:(0:Int)<(x.args.length:Int):=by omega
 have hgs:=grpC2 o ho (by rw[hop]at hl;omega) hc;simp only[List.mem_cons,List.not_mem_nil,or_false]at hgs;unfold Len at hlen;obtain⟨sW,HSW⟩:∃sW,Hid (sW=bs (kindAt o).1):=⟨_,rfl⟩;rw[← HSW.out];have HI:=Lh hI;obtain⟨k0,b0,off0,e0,n0,ha0,hb0,c0⟩:=arg_facts hv hA hW (i:=0) ZO;replace c0:w.cell? ⟨b0,off0,none⟩=some (.int .i64 (k0:Int)):=c0;obtain⟨k1,b1,off1,e1,n1,ha1,hb1,c1⟩:=arg_facts hv hA hW (i:=1) ZO;have ha1':=ha1;rw[ha0]at ha1';simp only[Option.some.injEq,Addr.mk.injEq,and_true]at ha1';obtain⟨rfl,rfl⟩:=ha1';have xl:=h.box.lt;have x1l:=h.box.cell 3;have x3l:=h.box.cell 5;replace x1l:w.cell? ⟨nb,3,none⟩=some (.slice (some ⟨gi,0,none⟩) F.vars.length F.vars.length):=x1l;replace x3l:w.cell? ⟨nb,5,none⟩=some (.slice (some ⟨ga,0,none⟩) F.vars.length F.vars.length):=x3l;have gil:=(h.ints.lt gi rfl).2;have gal:=(h.arrs.lt ga rfl).2;have a0:=own_ibx h.ints n0;have a1:=own_ibx h.ints n1;have r0:=own_ibx h.arrs n0;have ea:Hid (s.int (ith x.args 0)=ith s.ints k0):=by rw[e0];rfl
 have eb:Hid (s.int (ith x.args 1)=ith s.ints k1):=by rw[e1];rfl
 have er:Hid (s.arr (ith x.args 0)=ith s.arrs k0):=by rw[e0];rfl
 have k0l:(k0:Int)<(F.vars.length:Int):=by omega
 have k1l:(k1:Int)<(F.vars.length:Int):=by omega
 have ia:Hid (I64 (ith s.ints k0)):=HI.out.int (k0:Int);have ib:Hid (I64 (ith s.ints k1)):=HI.out.int (k1:Int);have H2:=Lh h;clear h e0 e1 hA hv hl hI hx hc hgrp;rw[ha0];clear ha0 ha1;generalize ith s.ints k0=a at a0 ea ia;generalize ith s.ints k1=b at a1 eb ib;generalize ith s.arrs k0=r at r0 er;have hpl:=fun(w1:World) (hb:Below w.heap.size w w1)=>(place_calls (w:=w1) (H2.out.below hb) r b).mono (R':=fun e w'=>e=.returned (.bool (s.placeB r b))∧∃k,w'=w1.drewN k) fun _ _ h=>⟨h.1,0,h.2⟩
 have HPL:=Lh hpl;clear hpl;go_enter Tryz.func89,Tryz.ntmps89;go_wp2
 go_quiet (fail)
 go_wp2
 go_quiet (fail)
 rcases hgs with rfl|rfl|rfl|rfl
 · as_aux_lemma=>
   have q18:(sW.toList==[99,104,107,105,100,120])=true:=by rw[HSW.out];exact word_eq 18 ZD 18 ZD
   have HF:=Lh (show passN 18 s x=s.placeB r b by rw[← er.out,← eb.out];rfl);go_wp2
   go_quiet (first|(go_at_call 92;refine quiet_of2 (HPL.out _ ?_);exact BLN))
   go_wp2;go_ret;exact⟨ret_bool HF.out.symm,by first|exact⟨_,rfl⟩|exact⟨_,World.drewN_drewN _ _ _⟩|(simp only[World.drewN_drewN];exact⟨_,rfl⟩)⟩
 · as_aux_lemma=>
   have q18:(sW.toList==[99,104,107,105,100,120])=false:=by rw[HSW.out];exact word_eq 21 ZD 18 ZD
   have q19:(sW.toList==[99,104,107,110,105,108])=false:=by rw[HSW.out];exact word_eq 21 ZD 19 ZD
   have q20:(sW.toList==[99,104,107,100,105,118])=false:=by rw[HSW.out];exact word_eq 21 ZD 20 ZD
   have q21:(sW.toList==[99,104,107,97,100,100])=true:=by rw[HSW.out];exact word_eq 21 ZD 21 ZD
   have HF:=Lh (show passN 21 s x=fitsA a b by rw[← ea.out,← eb.out];rfl);go_wp2_with(go_at_call 112;refine(fitsA_calls _ _).mono ?_;rintro e w9 ⟨rfl,m9,rfl⟩);go_ret;exact⟨ret_bool HF.out.symm,by first|exact⟨_,rfl⟩|exact⟨_,World.drewN_drewN _ _ _⟩|(simp only[World.drewN_drewN];exact⟨_,rfl⟩)⟩
 · as_aux_lemma=>
   have q18:(sW.toList==[99,104,107,105,100,120])=false:=by rw[HSW.out];exact word_eq 22 ZD 18 ZD
   have q19:(sW.toList==[99,104,107,110,105,108])=false:=by rw[HSW.out];exact word_eq 22 ZD 19 ZD
   have q20:(sW.toList==[99,104,107,100,105,118])=false:=by rw[HSW.out];exact word_eq 22 ZD 20 ZD
   have q21:(sW.toList==[99,104,107,97,100,100])=false:=by rw[HSW.out];exact word_eq 22 ZD 21 ZD
   have q22:(sW.toList==[99,104,107,115,117,98])=true:=by rw[HSW.out];exact word_eq 22 ZD 22 ZD
   have HF:=Lh (show passN 22 s x=fitsS a b by rw[← ea.out,← eb.out];rfl);go_wp2_with(go_at_call 112;refine(fitsS_calls _ _).mono ?_;rintro e w9 ⟨rfl,m9,rfl⟩);go_ret;exact⟨ret_bool HF.out.symm,by first|exact⟨_,rfl⟩|exact⟨_,World.drewN_drewN _ _ _⟩|(simp only[World.drewN_drewN];exact⟨_,rfl⟩)⟩
 · as_aux_lemma=>
   have q18:(sW.toList==[99,104,107,105,100,120])=false:=by rw[HSW.out];exact word_eq 23 ZD 18 ZD
   have q19:(sW.toList==[99,104,107,110,105,108])=false:=by rw[HSW.out];exact word_eq 23 ZD 19 ZD
   have q20:(sW.toList==[99,104,107,100,105,118])=false:=by rw[HSW.out];exact word_eq 23 ZD 20 ZD
   have q21:(sW.toList==[99,104,107,97,100,100])=false:=by rw[HSW.out];exact word_eq 23 ZD 21 ZD
   have q22:(sW.toList==[99,104,107,115,117,98])=false:=by rw[HSW.out];exact word_eq 23 ZD 22 ZD
   have q23:(sW.toList==[99,104,107,109,117,108])=true:=by rw[HSW.out];exact word_eq 23 ZD 23 ZD
   have HF:=Lh (show passN 23 s x=fitsM a b by rw[← ea.out,← eb.out];rfl);go_wp2_with(go_at_call 112;refine(fitsM_calls _ _ ia.out ib.out).mono ?_;rintro e w9 ⟨rfl,m9,rfl⟩);go_ret;exact⟨ret_bool HF.out.symm,by first|exact⟨_,rfl⟩|exact⟨_,World.drewN_drewN _ _ _⟩|(simp only[World.drewN_drewN];exact⟨_,rfl⟩)⟩
set_option maxHeartbeats 8000000 in
theorem passes1_calls(hop:x.op=(o:Int))(ho:o<27)(hgrp:¬2≤x.args.length)(hc:18≤o∧o≤24)(hx:instB F x=true)(hA:Rd W.heap.size Aa x.args 1 (IntC W))(hlen:Len x.args.length)(hW:Below W.heap.size W w)
 (h:RunO w D x0 x1 x2 nb gi gb ga F.vars.length vr vt vrs s) :
 Calls Tryz.prog 89 #[.pointer (some ⟨nb,0,none⟩),.string (bs (kindAt o).1),.slice Aa x.args.length ca] w fun e w'=>e=.returned (.bool (passN o s x))∧∃m,w'=w.drewN m:=by
 obtain⟨hv,hl,-⟩:=instB_parts hx;have h1:=takesC o ho hc;rw[← hop,← hl]at h1;have hlen':decide ((1:Int)<(x.args.length:Int))=false:=decide_eq_false ZO;have hlen0:(0:Int)<(x.args.length:Int):=by omega
 have hgs:=grpC1 o ho (by rw[hop]at hl;omega) hc;simp only[List.mem_cons,List.not_mem_nil,or_false]at hgs;unfold Len at hlen;obtain⟨sW,HSW⟩:∃sW,Hid (sW=bs (kindAt o).1):=⟨_,rfl⟩;rw[← HSW.out];obtain⟨k0,b0,off0,e0,n0,ha0,hb0,c0⟩:=arg_facts hv hA hW (i:=0) ZO;replace c0:w.cell? ⟨b0,off0,none⟩=some (.int .i64 (k0:Int)):=c0;have xl:=h.box.lt;have x1l:=h.box.cell 3;have x3l:=h.box.cell 5;replace x1l:w.cell? ⟨nb,3,none⟩=some (.slice (some ⟨gi,0,none⟩) F.vars.length F.vars.length):=x1l;replace x3l:w.cell? ⟨nb,5,none⟩=some (.slice (some ⟨ga,0,none⟩) F.vars.length F.vars.length):=x3l;have gil:=(h.ints.lt gi rfl).2;have gal:=(h.arrs.lt ga rfl).2;have a0:=own_ibx h.ints n0;have r0:=own_ibx h.arrs n0;have ea:Hid (s.int (ith x.args 0)=ith s.ints k0):=by rw[e0];rfl
 have er:Hid (s.arr (ith x.args 0)=ith s.arrs k0):=by rw[e0];rfl
 have k0l:(k0:Int)<(F.vars.length:Int):=by omega
 clear h e0 hA hv hl hx hc hgrp h1;rw[ha0];clear ha0;generalize ith s.ints k0=a at a0 ea;generalize ith s.arrs k0=r at r0 er;go_enter Tryz.func89,Tryz.ntmps89;go_wp2
 go_quiet (fail)
 rcases hgs with rfl|rfl|rfl
 · as_aux_lemma=>
   have q18:(sW.toList==[99,104,107,105,100,120])=false:=by rw[HSW.out];exact word_eq 19 ZD 18 ZD
   have q19:(sW.toList==[99,104,107,110,105,108])=true:=by rw[HSW.out];exact word_eq 19 ZD 19 ZD
   have HF:=Lh (show passN 19 s x=decide (0≤r) by rw[← er.out];rfl);go_wp2
   go_quiet (fail)
   go_wp2;go_ret;exact⟨ret_bool HF.out.symm,by first|exact⟨_,rfl⟩|exact⟨_,World.drewN_drewN _ _ _⟩|(simp only[World.drewN_drewN];exact⟨_,rfl⟩)⟩
 · as_aux_lemma=>
   have q18:(sW.toList==[99,104,107,105,100,120])=false:=by rw[HSW.out];exact word_eq 20 ZD 18 ZD
   have q19:(sW.toList==[99,104,107,110,105,108])=false:=by rw[HSW.out];exact word_eq 20 ZD 19 ZD
   have q20:(sW.toList==[99,104,107,100,105,118])=true:=by rw[HSW.out];exact word_eq 20 ZD 20 ZD
   have HF:=Lh (show passN 20 s x=!(a==0) by rw[← ea.out];rfl);go_wp2;go_ret;exact⟨ret_bool HF.out.symm,by first|exact⟨_,rfl⟩|exact⟨_,World.drewN_drewN _ _ _⟩|(simp only[World.drewN_drewN];exact⟨_,rfl⟩)⟩
 · as_aux_lemma=>
   have q18:(sW.toList==[99,104,107,105,100,120])=false:=by rw[HSW.out];exact word_eq 24 ZD 18 ZD
   have q19:(sW.toList==[99,104,107,110,105,108])=false:=by rw[HSW.out];exact word_eq 24 ZD 19 ZD
   have q20:(sW.toList==[99,104,107,100,105,118])=false:=by rw[HSW.out];exact word_eq 24 ZD 20 ZD
   have q21:(sW.toList==[99,104,107,97,100,100])=false:=by rw[HSW.out];exact word_eq 24 ZD 21 ZD
   have q22:(sW.toList==[99,104,107,115,117,98])=false:=by rw[HSW.out];exact word_eq 24 ZD 22 ZD
   have q23:(sW.toList==[99,104,107,109,117,108])=false:=by rw[HSW.out];exact word_eq 24 ZD 23 ZD
   have HF:=Lh (show passN 24 s x=(decide (0≤a)&&decide (a≤64)) by rw[← ea.out];rfl)
   by_cases p0:0≤a
   · go_wp2
     go_ret;exact⟨ret_bool (by rw[HF.out,decide_eq_true p0];rfl),_,rfl⟩
   · have p1:decide (0≤a)=false:=decide_eq_false p0
     go_wp2;go_ret;exact⟨ret_bool (by rw[HF.out,p1];rfl),_,rfl⟩
end
end Go.Proofs.YthhjlbflpjhahaaGreatDoor
