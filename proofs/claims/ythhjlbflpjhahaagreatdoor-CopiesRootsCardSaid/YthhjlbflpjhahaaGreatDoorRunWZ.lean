/- The walk of inst of the document's run: checks; all. -/
import Derived.Test.YthhjlbflpjhahaaGreatDoorRunXZ
import Derived.Test.YthhjlbflpjhahaaGreatDoorRunX1Z
import Derived.Test.YthhjlbflpjhahaaGreatDoorRunYZ
import Derived.Test.YthhjlbflpjhahaaGreatDoorRunEZ
namespace Go.Proofs.YthhjlbflpjhahaaGreatDoor
open Go.RowKit
set_option maxRecDepth 100000
theorem Ypf{x0 x1 x2 vr vt:Value}{gi gb ga n t:Nat}{s:RSt}(ht:t<8):(YbH x0 x1 x2 gi gb ga n vr vt s)[14+t]?=some (.int .i64 (ith s.checks t)):=by
 match t,ht with
 |0,_=>rfl
 |1,_=>rfl
 |2,_=>rfl
 |3,_=>rfl
 |4,_=>rfl
 |5,_=>rfl
 |6,_=>rfl
 |7,_=>rfl
 |_+8,h=>exact absurd h ZO
theorem Yjy{s:RSt}{x:PInst}{t:Nat}(h1:1≤t)(h2:t≤7):instN (t+17) s x=Ybe t (Ybd (t+17) s x) s:=by
 match t,h1,h2 with
 |1,_,_=>rfl
 |2,_,_=>rfl
 |3,_,_=>rfl
 |4,_,_=>rfl
 |5,_,_=>rfl
 |6,_,_=>rfl
 |7,_,_=>rfl
theorem Ypg{x0 x1 x2 vr vt:Value}{gi gb ga n t:Nat}{s:RSt}(ht:t<8)(hl:s.checks.length=8):(YbH x0 x1 x2 gi gb ga n vr vt s).setIfInBounds (14+t) (.int .i64 (wrap64 (ith s.checks t+1)))=YbH x0 x1 x2 gi gb ga n vr vt (s.tick t):=by
 obtain⟨i,b,a,r,bl,pc,en,va,tr,tc,st,ck,ed⟩:=s
 match ck,hl with
 |[c0,c1,c2,c3,c4,c5,c6,c7],_=>
  match t,ht with
  |0,_=>rfl
  |1,_=>rfl
  |2,_=>rfl
  |3,_=>rfl
  |4,_=>rfl
  |5,_=>rfl
  |6,_=>rfl
  |7,_=>rfl
  |_+8,h=>exact absurd h ZO
section
variable {W w:World} {D:Nat→Prop} {nb gi gb ga:Nat} {x0 x1 x2 vr vt:Value} {vrs:List Value} {s:RSt} {F:PFunc} {x:PInst} {Aa:Option Addr} {ca o:Nat}
set_option maxHeartbeats 16000000 in
theorem Yph(hI:RInv F s)(hop:x.op=(o:Int))(ho:o<27)(_hgrp:1≤x.args.length)(hc:18≤o∧o≤24)(hDW:∀k,k<W.heap.size→D k)(hx:Yj F x=true)(hA:Rd W.heap.size Aa x.args 1 (Yi W))(hlen:Len x.args.length)(hW:Below W.heap.size W w)
 (h:RunO w D x0 x1 x2 nb gi gb ga F.vars.length vr vt vrs s) (hD:∀k,D k→k<w.heap.size) :
 Calls Tryz.prog 60 #[.pointer (some ⟨nb,0,none⟩),.agg #[.int .i64 (o:Int),.int .i64 x.dst,.slice Aa x.args.length ca,.int .i64 x.num]] w fun e w'=>e=.returned (.tuple #[])∧Yc1 w D x0 x1 x2 nb gi gb ga F.vars.length (instN o s x) w':=by
 obtain⟨hv,hl,hm⟩:=YaR hx;have hck:=fun w=>Ye1 (w:=w) o ho
 have hps:=fun(w':World) (s':RSt) (hI':RInv F s') (hW':Below W.heap.size W w') (h':RunO w' D x0 x1 x2 nb gi gb ga F.vars.length vr vt vrs s')=>if hg:2≤x.args.length then Ypc (ca:=ca) hI' hop ho hg hc hx hA hlen hW' h' else Ypd (ca:=ca) hop ho hg hc hx hA hlen hW' h'
 rw[if_pos hc]at hck;obtain⟨t,hot⟩:∃t,o=t+17:=⟨o-17,ZO⟩;have ht8:(t:Int)<8:=by omega
 have ht0:(0:Int)<(t:Int):=by omega
 have htn:t<8:=by omega
 rw[show(o:Int)-17=(t:Int)from ZO]at hck;have HOT:=Lh hot;have HPS:=Lh hps;clear hps _hgrp hot hc;unfold Len at hlen;obtain⟨sW,HSW⟩:∃sW,Hid (sW=bs (kindAt o).1):=⟨_,rfl⟩;have HL:=Lh hl;have HM:=Lh hm;have HX:=Lh hx;have HV:=Lh hv;have HI:=Lh hI;clear hl hm hx hv hI;go_enter Tryz.func60,Tryz.ntmps60
 go_upto_region 1 with fail
 go_cut[4] (fun s4 wx=>s4=.string sW∧Below (w.heap.size+1) (w.alloc (.cells #[.int .i64 (o:Int),.int .i64 x.dst,.slice Aa x.args.length ca,.int .i64 x.num] 67)) wx)
 case first=>as_aux_lemma=>
  obtain⟨S0,hS0⟩:∃S0:World→Prop,S0=fun w'=>w'.cell? ⟨w.heap.size,0,none⟩=some (.int .i64 (o:Int))∧Below (w.heap.size+1) (w.alloc (.cells #[.int .i64 (o:Int),.int .i64 x.dst,.slice Aa x.args.length ca,.int .i64 x.num] 67)) w'∧w.heap.size<w'.heap.size:=⟨_,rfl⟩
  have HS0:=Lh hS0;clear hS0;have k0:=fun xw=>(WS.at HS0 xw).1
  have k1:=fun xw=>(WS.at HS0 xw).2.1
  have k2:=fun xw=>(WS.at HS0 xw).2.2
  refine YeD (S:=S0) [(1,false),(2,false),(0,true),(3,false),(4,false),(5,true),(6,false)] ZK ZK (fun _ _ _ _ _ h=>h) ?hS (fun hSc=>?_)
  case hS=>
   rw[HS0.out];exact⟨ZI,BL,ZJ⟩
  have hne0:Nonempty (WS S0):=⟨⟨_,hSc⟩⟩;simp only[List.map_cons,List.map_nil,Ld,Le]
  repeat
   first
   |((with_reducible refine YeE ?_ ?_);exact rfl;dsimp only;go_big_quiet_step (fail);(try with_reducible refine wpQuiet_nil ?_);(try dsimp only))
   |((with_reducible refine YeF ?_ ?_ (fun K hK=>?_))
     exact rfl;exact rfl;dsimp only;go_simp;(try go_wp2_with(go_at_call 76;refine Ybl.mono ?_;rintro e w9 ⟨rfl,hR9,hz9,hb9⟩;obtain⟨hc9,hf9⟩:=Yb hb9;obtain⟨hr0,hr1,hr2⟩:=hR9 o ho;try simp at hz9;try simp only[heap_drew,World.size_alloc]at hr0 hr1 hr2;rw[← HSW.out]at hr0));refine hK.out _ _ ?hS (fun hSc=>?_)
     case hS=>
      first
      |exact hSc
      |(rw[HS0.out]at hSc ⊢;obtain⟨p0,p1,p2⟩:=hSc;exact⟨ZC0,ZL1,ZT2⟩)
      |(rw[HS0.out]at hSc ⊢;obtain⟨p0,p1,p2⟩:=hSc;exact⟨ZC,BL,ZT⟩)
     clear hK K)
  refine YeG ?_;rw[HS0.out]at hSc;obtain⟨p0,p1,p2⟩:=hSc;clear hne0 HS0 k0 k1 k2;go_wp2_with fail
  go_meet
  exact⟨rfl,BL⟩
 case rest=>as_aux_lemma=>
  obtain⟨rfl,hbc⟩:=hcut;obtain⟨i8,ix⟩:=YbE hbc;have i0:wc.cell? ⟨w.heap.size,0,none⟩=some (.int .i64 (o:Int)):=ix 0;have i1:wc.cell? ⟨w.heap.size,1,none⟩=some (.int .i64 x.dst):=ix 1;have i2:wc.cell? ⟨w.heap.size,2,none⟩=some (.slice Aa x.args.length ca):=ix 2;have i3:wc.cell? ⟨w.heap.size,3,none⟩=some (.int .i64 x.num):=ix 3;have hBc:Below w.heap.size w wc:=((Br _ _).alloc (Nr _) _).trans (hbc.mono (Nat.le_succ _));have hWc:=hW.trans (hBc.mono hW.size);have h2:=h.below hBc;have HK:=Lh (Kp.below (D:=D) hBc (fun k _ hk=>hD k hk));have HD:=Lh (show ∀k,D k→k<wc.heap.size from fun k hk=>Nt (hD k hk) hBc.size);have xl:=h2.box.lt;have H2:=Lh h2;have hcl:=HI.out.lc;have HIt:=Lh (HI.out.tick t);have ct:=h2.box.cell (14+t);have cf:=h2.box.frozen (14+t);replace ct:wc.cell? ⟨nb,14+t,none⟩=some (.int .i64 (ith s.checks t)):=ct.trans (Ypf htn);have HT:=Lh (h2.setBox (j:=14+t) (v:=.int .i64 (wrap64 (ith s.checks t+1))) (s':=s.tick t) (Ypg htn hcl) rfl rfl rfl rfl rfl);have hnbw:nb≠w.heap.size:=by have:=h.box.lt;omega
  have hnbW:W.heap.size≤nb:=Nat.le_of_not_lt fun e=>h.bs (hDW nb e)
  have HWc:=Lh hWc;clear h h2 ix hcl hA;generalize ith s.checks t=z at *
  go_upto_region 4 with(go_at_call 88;refine(hck _).mono ?_;rintro e w9 ⟨rfl,rfl⟩)
  go_cut[13] (fun s13 wx=>RunO wx D x0 x1 x2 nb gi gb ga F.vars.length vr vt vrs (s.tick t)∧Kp D w wx∧wx.cell? ⟨w.heap.size,2,none⟩=some (.slice Aa x.args.length ca)∧w.heap.size<wx.heap.size∧Below W.heap.size W wx)
  case first=>as_aux_lemma=>
   obtain⟨S0,hS0⟩:∃S0:World→Prop,S0=fun w'=>w'.cell? ⟨nb,14+t,none⟩=some (.int .i64 z)∧nb<w'.heap.size:=⟨_,rfl⟩
   have HS0:=Lh hS0;clear hS0;have k0:=fun xw=>(WS.at HS0 xw).1
   have k1:=fun xw=>(WS.at HS0 xw).2
   refine YZ (S:=S0) [12] ZK ?hS (fun hSc hcl=>?_)
   case hS=>
    rw[HS0.out];exact⟨ZI,ZJ⟩
   have hne0:Nonempty (WS S0):=⟨⟨_,hSc⟩⟩;have hneT:Nonempty (WS (fun _=>True)):=match hne0 with|⟨x⟩=>⟨⟨x.w,trivial⟩⟩
   refine YT [(0,0),(1,0),(2,0),(3,0),(4,0),(5,0),(6,0),(7,0),(8,0),(9,0),(10,0),(11,0)] 1 rfl ZK (fun _ _ _ _ _ h=>h) hSc hcl ?_
   all_goals
    (try simp only[List.map_cons,List.map_nil,Ld,Le])
    repeat
     first
     |((with_reducible refine YU ?_ ?_);exact rfl;dsimp only;go_big_quiet_step (fail);(try with_reducible refine wpQuiet_nil ?_);(try dsimp only))
     |((with_reducible refine YV ?_ ?_);exact rfl;dsimp only;go_big_quiet_step (fail);(try with_reducible refine wpQuiet_nil ?_);(try dsimp only))
    (try(refine YW ?_;intro hSc hcl))
   all_goals
    refine Y0 [12] rfl ZK ?_;simp only[List.map_cons,List.map_nil,Ld,Le];rw[HS0.out]at hSc;obtain⟨p0,p1⟩:=hSc;clear hne0 hneT hcl HS0 k0 k1;go_wp2_with fail
    go_meet
    exact⟨RunO.below HT.out BL,by first|exact(Kp.setCell (p:=⟨nb,14+t,none⟩) HK.out H2.out.bs _).drew|exact(Kp.setCell (p:=⟨nb,14+t,none⟩) HK.out H2.out.bs _),by have q:=(World.cell?_setCell_far w9 ⟨nb,14+t,none⟩ ⟨w.heap.size,2,none⟩ (.int .i64 (wrap64 (z+1))) (by first|simpa using hnbw|simpa using Ne.symm hnbw)).trans i2;exact q,by simpa using i8,by first|exact(Below.setCell (p:=⟨nb,14+t,none⟩) HWc.out hnbW _).drew|exact Below.setCell (p:=⟨nb,14+t,none⟩) HWc.out hnbW _⟩
  case rest=>as_aux_lemma=>
   obtain⟨h4,k4,j2,j8,hW4⟩:=hcut;have hp:=HPS.out _ _ HIt.out hW4 h4;rw[show Ybd o (s.tick t) x=Ybd o s x from rfl,← HSW.out]at hp;have y11:=h4.box.cell 11;have f11:=h4.box.frozen 11;replace y11:wc.cell? ⟨nb,11,none⟩=some (.int .i64 s.trap):=y11;have yl:=h4.box.lt;have H4:=Lh h4;clear HK;have HK:=Lh k4;clear h4 k4;cases hok:Ybd o s x
   · rw[hok]at hp
     have HF:=Lh (show instN o s x=(s.tick t).trapW t by rw[HOT.out,Yjy ZO ZO,← HOT.out,hok];rfl);have HE:=Lh (fun m=>YbI ((H4.out.below (bdrewN (Br wc.heap.size wc) m)).setBox (j:=11) (v:=.int .i64 (t:Int)) (s':={ s.tick t with trap:=t }) rfl rfl rfl rfl rfl rfl) 1);clear hok;go_wp2_with(first|(go_at_call 89;refine hp.mono ?_;rintro e w9 ⟨rfl,m9,rfl⟩)|(go_at_call 61;refine(HE.out _).mono ?_;rintro e w9 ⟨rfl,hR9,hK9⟩));(first|go_end0|((try simp only[Exit.inBlock,Exit.then]);refine bodyPost_ret (results_none rfl _ _ _) rfl ?_));rw[HF.out];exact⟨rfl,_,_,_,hR9,Kp.trans (Kp.setCell ZP H4.out.bs _) hK9⟩
   · rw[hok]at hp
     have HF:=Lh (show instN o s x=s.tick t by rw[HOT.out,Yjy ZO ZO,← HOT.out,hok];rfl);clear hok;go_wp2_with(go_at_call 89;refine hp.mono ?_;rintro e w9 ⟨rfl,m9,rfl⟩);(first|go_end0|((try simp only[Exit.inBlock,Exit.then]);refine bodyPost_ret (results_none rfl _ _ _) rfl ?_));rw[HF.out];exact⟨rfl,_,_,_,RunO.below H4.out BLN,ZP⟩
theorem Ypi{n:Nat}(hI:RInv F s)(hn:n=F.vars.length)(hx:Yj F x=true)(_hnum:I64 x.num)(hA:Rd W.heap.size Aa x.args 1 (Yi W))(hlen:Len x.args.length)(hW:Below W.heap.size W w)
 (h:RunO w D x0 x1 x2 nb gi gb ga n vr vt vrs s) (hD:∀k,D k→k<w.heap.size) (hDW:∀k,k<W.heap.size→D k) :
 Calls Tryz.prog 60 #[.pointer (some ⟨nb,0,none⟩),.agg #[.int .i64 x.op,.int .i64 x.dst,.slice Aa x.args.length ca,.int .i64 x.num]] w fun e w'=>e=.returned (.tuple #[])∧Yc1 w D x0 x1 x2 nb gi gb ga n (Yca s x) w':=by
 subst hn;have ho:YaA x.op=true:=by
  unfold Yj at hx;simp only[Bool.and_eq_true]at hx;exact hx.1.1.1.1
 obtain⟨k,hk,hk2⟩:=Yae ho;rw[show Yca s x=instN k s x by unfold Yca;rw[hk,Int.toNat_natCast],hk]
 by_cases hc:18≤k∧k≤24
 · exact Yph hI hk hk2 (by have:=Yjx k hk2 hc;rw[← hk,← (YaR hx).2.1]at this;exact this) hc hDW hx hA hlen hW h hD
 · by_cases h0:x.args.length=0
   · exact Yo9 hk hk2 h0 hx hW h hD
   · by_cases h1:x.args.length=1
     · exact Yo8 hI hk hk2 h1 hc hx hA hlen hW h hD
     · exact Yo7 hI hk hk2 ZO hc hx hA hlen hW h hD
end
section
variable {W w:World} {D:Nat→Prop} {nb gi gb ga:Nat} {vr vt:Value} {vrs:List Value} {s:RSt} {F:PFunc} {A0 A1 A2:Option Addr} {c0 c1 c2:Nat}
set_option maxHeartbeats 16000000 in
theorem Yjz(hF:FnV W W.heap.size (.agg #[.slice A0 F.vars.length c0,.slice A1 F.params.length c1,.slice A2 F.blocks.length c2]) F)(hT:Yd F=true)(hS:Yav F)(hN:Ybf F)(hW:Below W.heap.size W w)(hI:RInv F s)
 (h:RunO w D (.slice A0 F.vars.length c0) (.slice A1 F.params.length c1) (.slice A2 F.blocks.length c2) nb gi gb ga F.vars.length vr vt vrs s) (hD:∀k,D k→k<w.heap.size) (hDW:∀k,k<W.heap.size→D k) :
 Calls Tryz.prog 35 #[.pointer (some ⟨nb,0,none⟩)] w fun e w'=>e=.returned (.tuple #[])∧Yc1 w D (.slice A0 F.vars.length c0) (.slice A1 F.params.length c1) (.slice A2 F.blocks.length c2) nb gi gb ga F.vars.length (Yx F s) w':=by
 obtain⟨A0',c0',A1',c1',A2',c2',hfe,l0,l1,l2,-,-,-,r0,r1,r2⟩:=id hF.open_;simp only[Value.agg.injEq,Array.mk.injEq,List.cons.injEq,Value.slice.injEq,true_and,and_true]at hfe;obtain⟨⟨rfl,rfl⟩,⟨rfl,rfl⟩,rfl,rfl⟩:=hfe;unfold Len at *;have hSh:=YcH hT;obtain⟨bb,off,A3,c3,A4,c4,rfl,hbb,-,hy0,hy1,hy2,hy3,hy4,hy5,hy6,lp,li,kp,ki,rp,ri⟩:=r2.blk hW hI.blk;have hblk:=hI.blk;have hbn:(s.block:Int)<(F.blocks.length:Int):=by omega
 have hparts:=Yaw hSh hI.blk;have HEN:=Lh (fun(w1:World) (hw:Below W.heap.size W w1) (vr' vt':Value) (vrs':List Value) (tb:Nat) (ht:tb<F.blocks.length) (hD':∀k,D k→k<w1.heap.size) (s1:RSt) (hI1:RInv F s1) (h1:RunO w1 D (.slice A0 F.vars.length c0) (.slice A1 F.params.length c1) (.slice (some ⟨bb,off,none⟩) F.blocks.length c2) nb gi gb ga F.vars.length vr' vt' vrs' s1)=>Ype hF hSh hS hw hI1 ht h1 hD' hDW);have H0:=Lh (fun m=>(h.below (bdrewN (Br w.heap.size w) m)).setBox (j:=13) (v:=.int .i64 (wrap64 (s.steps+1))) (s':={ s with steps:=wrap64 (s.steps+1) }) rfl rfl rfl rfl rfl rfl);have hI1:RInv F { s with steps:=wrap64 (s.steps+1) }:=⟨hI.li,hI.lb,hI.la,hI.blk,hI.pc,hI.arrs,hI.ints,hI.rows,hI.ll,hI.lr,hI.lt,hI.lc⟩;have HI1:=Lh hI1;have HI:=Lh hI;have hnbW:W.heap.size≤nb:=Nat.le_of_not_lt fun e=>h.bs (hDW nb e)
 have xl:=h.box.lt;have k2:=h.box.cell 2;have k4:=h.box.cell 4;have k7:=h.box.cell 7;have k13:=h.box.cell 13;have f13:=h.box.frozen 13;replace k2:w.cell? ⟨nb,2,none⟩=some (.slice (some ⟨bb,off,none⟩) F.blocks.length c2):=k2;replace k7:w.cell? ⟨nb,7,none⟩=some (.int .i64 (s.block:Int)):=k7;replace k13:w.cell? ⟨nb,13,none⟩=some (.int .i64 s.steps):=k13;clear k4;have hbw:bb≠nb:=fun e=>by
  obtain⟨b',off',e1,hb',-⟩:=r2 _ _ (PFunc.blk_get hblk);simp only[Option.some.injEq,Addr.mk.injEq,and_true]at e1;omega
 have hbw':nb≠bb:=fun e=>hbw e.symm
 have HBS:=Lh h.bs;have HWW:=Lh hW;have HDD:=Lh hD;have HPT:=Lh hparts;have HTY:=Lh hT;have HNR:=Lh hN;have HDW:=Lh hDW;have HRI:=Lh ri;have HS13:=Lh (h.setBox (j:=13) (v:=.int .i64 (wrap64 (s.steps+1))) (s':={ s with steps:=wrap64 (s.steps+1) }) rfl rfl rfl rfl rfl rfl);have HK13:=Lh (Kp.setCell (p:=⟨nb,13,none⟩) (Kp.refl (D:=D) (w:=w)) h.bs (.int .i64 (wrap64 (s.steps+1))));have HB13:=Lh (Below.setCell (p:=⟨nb,13,none⟩) hW hnbW (.int .i64 (wrap64 (s.steps+1))));have hWs:=hW.size;clear h hF r0 r1 r2 hI hI1 hparts hT hN hSh hDW hD hW hS ri;obtain⟨il,hil⟩:∃n,n=(F.blk s.block).insts.length:=⟨_,rfl⟩;obtain⟨pl0,hpl⟩:∃n,n=(F.blk s.block).phis.length:=⟨_,rfl⟩;obtain⟨kd,hkd⟩:∃n,n=(F.blk s.block).term.kind:=⟨_,rfl⟩;obtain⟨vr0,hvr⟩:∃n,n=(F.blk s.block).term.var:=⟨_,rfl⟩;obtain⟨t0,ht0⟩:∃n,n=(F.blk s.block).term.t0:=⟨_,rfl⟩;obtain⟨t1,ht1⟩:∃n,n=(F.blk s.block).term.t1:=⟨_,rfl⟩;obtain⟨nm,hnm⟩:∃n,n=(F.blk s.block).name:=⟨_,rfl⟩;rw[← hnm]at hy0;rw[← hpl]at hy1;rw[← hil]at hy2 li ki;rw[← hkd]at hy3;rw[← hvr]at hy4;rw[← ht0]at hy5;rw[← ht1]at hy6;have HIL:=Lh hil;have HKD:=Lh hkd;have HVR:=Lh hvr;have HT0:=Lh ht0;have HT1:=Lh ht1;clear hil hpl hkd hvr ht0 ht1 hnm lp kp rp H0;go_enter Tryz.func35,Tryz.ntmps35
 go_upto_region 1 with fail
 go_cut[2] (fun s2 wx=>s2=.pointer (some ⟨w.heap.size,0,none⟩)∧RunO wx D (.slice A0 F.vars.length c0) (.slice A1 F.params.length c1) (.slice (some ⟨bb,off,none⟩) F.blocks.length c2) nb gi gb ga F.vars.length vr vt vrs { s with steps:=wrap64 (s.steps+1) }∧Kp D w wx∧Below W.heap.size W wx∧w.heap.size<wx.heap.size∧
  wx.cell? ⟨w.heap.size,2,none⟩=some (.slice A4 il c4)∧wx.cell? ⟨w.heap.size,3,none⟩=some (.int .i64 kd)∧wx.cell? ⟨w.heap.size,4,none⟩=some (.int .i64 vr0)∧wx.cell? ⟨w.heap.size,5,none⟩=some (.int .i64 t0)∧wx.cell? ⟨w.heap.size,6,none⟩=some (.int .i64 t1))
 case first=>as_aux_lemma=>
  obtain⟨S0,hS0⟩:∃S0:World→Prop,S0=fun w'=>w'.cell? ⟨nb,2,none⟩=some (.slice (some ⟨bb,off,none⟩) F.blocks.length c2)∧w'.cell? ⟨nb,7,none⟩=some (.int .i64 (s.block:Int))∧w'.cell? ⟨bb,off+s.block*7,none⟩=some (.string nm)∧w'.cell? ⟨bb,off+s.block*7+1,none⟩=some (.slice A3 pl0 c3)∧w'.cell? ⟨bb,off+s.block*7+2,none⟩=some (.slice A4 il c4)∧w'.cell? ⟨bb,off+s.block*7+3,none⟩=some (.int .i64 kd)∧w'.cell? ⟨bb,off+s.block*7+4,none⟩=some (.int .i64 vr0)∧w'.cell? ⟨bb,off+s.block*7+5,none⟩=some (.int .i64 t0)∧w'.cell? ⟨bb,off+s.block*7+6,none⟩=some (.int .i64 t1)∧Below w.heap.size (w.setCell ⟨nb,13,none⟩ (.int .i64 (wrap64 (s.steps+1)))) w'∧nb<w'.heap.size∧bb<w'.heap.size:=⟨_,rfl⟩
  have HS0:=Lh hS0;clear hS0;have k0:=fun xw=>(WS.at HS0 xw).1
  have k1:=fun xw=>(WS.at HS0 xw).2.1
  have k2:=fun xw=>(WS.at HS0 xw).2.2.1
  have k3:=fun xw=>(WS.at HS0 xw).2.2.2.1
  have k4:=fun xw=>(WS.at HS0 xw).2.2.2.2.1
  have k5:=fun xw=>(WS.at HS0 xw).2.2.2.2.2.1
  have k6:=fun xw=>(WS.at HS0 xw).2.2.2.2.2.2.1
  have k7:=fun xw=>(WS.at HS0 xw).2.2.2.2.2.2.2.1
  have k8:=fun xw=>(WS.at HS0 xw).2.2.2.2.2.2.2.2.1
  have k9:=fun xw=>(WS.at HS0 xw).2.2.2.2.2.2.2.2.2.1
  have k10:=fun xw=>(WS.at HS0 xw).2.2.2.2.2.2.2.2.2.2.1
  have k11:=fun xw=>(WS.at HS0 xw).2.2.2.2.2.2.2.2.2.2.2
  refine YZ (S:=S0) [12] ZK ?hS (fun hSc hcl=>?_)
  case hS=>
   rw[HS0.out];exact⟨ZI,ZI,ZI,ZI,ZI,ZI,ZI,ZI,ZI,BL,ZJ,ZJ⟩
  have hne0:Nonempty (WS S0):=⟨⟨_,hSc⟩⟩;have hneT:Nonempty (WS (fun _=>True)):=match hne0 with|⟨x⟩=>⟨⟨x.w,trivial⟩⟩
  refine YT [(0,0),(1,0),(2,0),(3,0),(4,0),(5,0),(6,0),(7,0),(8,0),(9,0),(10,0),(11,1)] 1 rfl ZK (fun _ _ _ _ _ h=>h) hSc hcl ?_
  all_goals
   (try simp only[List.map_cons,List.map_nil,Ld,Le])
   repeat
    first
    |((with_reducible refine YU ?_ ?_);exact rfl;dsimp only;go_big_quiet_step (fail);(try with_reducible refine wpQuiet_nil ?_);(try dsimp only))
    |((with_reducible refine YV ?_ ?_);exact rfl;dsimp only;go_big_quiet_step (fail);(try with_reducible refine wpQuiet_nil ?_);(try dsimp only))
    |((with_reducible refine YaI ?_ ?_ (fun K hK=>?_))
      exact rfl;exact rfl;dsimp only;go_simp;(try go_wp2_with(fail));refine hK.out _ _ ?hS (fun hSc=>?_)
      case hS=>
       first
       |exact hSc
       |(rw[HS0.out]at hSc ⊢;obtain⟨p0,p1,p2,p3,p4,p5,p6,p7,p8,p9,p10,p11⟩:=hSc;exact⟨ZC,ZC,ZC,ZC,ZC,ZC,ZC,ZC,ZC,BL,ZT,ZT⟩)
      clear hK K)
   (try(refine YW ?_;intro hSc hcl))
  all_goals
   refine Y0 [12] rfl ZK ?_;simp only[List.map_cons,List.map_nil,Ld,Le];rw[HS0.out]at hSc;obtain⟨p0,p1,p2,p3,p4,p5,p6,p7,p8,p9,p10,p11⟩:=hSc;clear hne0 hneT hcl HS0 k0 k1 k2 k3 k4 k5 k6 k7 k8 k9 k10 k11;go_wp2_with fail
   go_meet
   exact⟨rfl,RunO.below HS13.out BL,by first|exact(HK13.out.alloc _).drew|exact HK13.out.drew.alloc _|exact(HK13.out.alloc _),by first|exact(HB13.out.alloc (by simpa using hWs) _).drew|exact(HB13.out.drew.alloc (by simpa using hWs) _)|exact(HB13.out.alloc (by simpa using hWs) _),ZS,by go_simp,by go_simp,by go_simp,by go_simp,by go_simp⟩
 case rest=>as_aux_lemma=>
  obtain⟨rfl,h4,k4,hW4,hb8,b2,b3,b4,b5,b6⟩:=hcut;have hlil:il≤281474976710656:=li;have HK:=Lh k4;have HW4:=Lh hW4;have H4:=Lh h4;have HDc:=Lh (show ∀k,D k→k<wc.heap.size from fun k hk=>Nt (HDD.out k hk) k4.size);have xl:=h4.box.lt;have k8:=h4.box.cell 8;have f8:=h4.box.frozen 8;replace k8:wc.cell? ⟨nb,8,none⟩=some (.int .i64 (s.pc:Int)):=k8
  by_cases h1:s.pc<il
  · as_aux_lemma=>
    have h2:(s.pc:Int)<(il:Int):=by omega
    have hpl:s.pc<(F.blk s.block).insts.length:=by rw[← HIL.out];exact h1
    obtain⟨ib,io,A5,c5,rfl,ibl,q0,q1,q2,q3,l5,k5,r5⟩:=HRI.out.inst hW4 hpl;have hm:=Ye0 hpl;have hx:=HPT.out.2.1 _ hm;have hnum:=HNR.out _ (YK HI.out.blk) _ hm;have hX:=Lh (YcI hpl);have hI2:RInv F { s with steps:=wrap64 (s.steps+1),pc:=s.pc+1 }:=⟨HI.out.li,HI.out.lb,HI.out.la,HI.out.blk,hpl,HI.out.arrs,HI.out.ints,HI.out.rows,HI.out.ll,HI.out.lr,HI.out.lt,HI.out.lc⟩
    have HC:=Lh (fun(q:Nat) (w':World) (hb:Below ((wc.drewN q).setCell ⟨nb,8,none⟩ (.int .i64 ((s.pc:Int)+1))).heap.size ((wc.drewN q).setCell ⟨nb,8,none⟩ (.int .i64 ((s.pc:Int)+1))) w')=>
     Ypi (ca:=c5) hI2 rfl hx hnum r5 l5 ((Below.setCell (p:=⟨nb,8,none⟩) (bdrewN HW4.out q) hnbW (.int .i64 ((s.pc:Int)+1))).trans (hb.mono (by have:=HW4.out.size;simpa using this)))
      (((H4.out.below (bdrewN (Br wc.heap.size wc) q)).setBox (j:=8) (v:=.int .i64 ((s.pc:Int)+1)) (s':={ s with steps:=wrap64 (s.steps+1),pc:=s.pc+1 }) rfl rfl rfl rfl rfl rfl).below hb) (fun k hk=>Nt (HDc.out k hk) (by have:=hb.size;simpa using this)) HDW.out)
    have HK2:=Lh (fun q=>Kp.setCell (p:=⟨nb,8,none⟩) (HK.out.drewN q) HBS.out (.int .i64 ((s.pc:Int)+1)));have hnw:nb≠w.heap.size:=by omega
    have hnw':=hnw.symm;have hib:nb≠ib:=fun e=>by
     obtain⟨ib',io',e1,hb',-⟩:=HRI.out _ _ (PBlock.inst_get hpl);simp only[Option.some.injEq,Addr.mk.injEq,and_true]at e1;omega
    have hib':=hib.symm;clear hpl hm hx hnum r5 hI2 hW4 h4 k4 HK b3 b4 b5 b6;generalize (F.blk s.block).inst s.pc=x at *;go_wp2
    go_quiet (fail)
    go_wp2_with fail;obtain⟨S0,hS0⟩:∃S0:World→Prop,S0=fun w'=>w'.cell? ⟨w.heap.size,2,none⟩=some (.slice (some ⟨ib,io,none⟩) il c4)∧w'.cell? ⟨nb,8,none⟩=some (.int .i64 ((s.pc:Int)+1))∧w'.cell? ⟨ib,io+s.pc*4,none⟩=some (.int .i64 x.op)∧w'.cell? ⟨ib,io+s.pc*4+1,none⟩=some (.int .i64 x.dst)∧w'.cell? ⟨ib,io+s.pc*4+2,none⟩=some (.slice A5 x.args.length c5)∧w'.cell? ⟨ib,io+s.pc*4+3,none⟩=some (.int .i64 x.num)∧nb<w'.heap.size∧w.heap.size<w'.heap.size∧ib<w'.heap.size:=⟨_,rfl⟩
    have HS0:=Lh hS0;clear hS0;have k0:=fun xw=>(WS.at HS0 xw).1
    have k1:=fun xw=>(WS.at HS0 xw).2.1
    have k2:=fun xw=>(WS.at HS0 xw).2.2.1
    have k3:=fun xw=>(WS.at HS0 xw).2.2.2.1
    have k4:=fun xw=>(WS.at HS0 xw).2.2.2.2.1
    have k5:=fun xw=>(WS.at HS0 xw).2.2.2.2.2.1
    have k6:=fun xw=>(WS.at HS0 xw).2.2.2.2.2.2.1
    have k7:=fun xw=>(WS.at HS0 xw).2.2.2.2.2.2.2.1
    have k8:=fun xw=>(WS.at HS0 xw).2.2.2.2.2.2.2.2
    refine YZ (S:=S0) [10] ZK ?hS (fun hSc hcl=>?_)
    case hS=>
     rw[HS0.out];exact⟨ZI,ZI,ZI,ZI,ZI,ZI,ZJ,ZJ,ZJ⟩
    have hne0:Nonempty (WS S0):=⟨⟨_,hSc⟩⟩;have hneT:Nonempty (WS (fun _=>True)):=match hne0 with|⟨x⟩=>⟨⟨x.w,trivial⟩⟩
    refine YT [(0,0),(1,0),(2,0),(3,0),(4,0),(5,0),(6,0),(7,0),(8,0),(9,0)] 1 rfl ZK (fun _ _ _ _ _ h=>h) hSc hcl ?_
    all_goals
     (try simp only[List.map_cons,List.map_nil,Ld,Le])
     repeat
      first
      |((with_reducible refine YU ?_ ?_);exact rfl;dsimp only;go_big_quiet_step (fail);(try with_reducible refine wpQuiet_nil ?_);(try dsimp only))
      |((with_reducible refine YV ?_ ?_);exact rfl;dsimp only;go_big_quiet_step (fail);(try with_reducible refine wpQuiet_nil ?_);(try dsimp only))
     (try(refine YW ?_;intro hSc hcl))
    all_goals
     refine Y0 [10] rfl ZK ?_;simp only[List.map_cons,List.map_nil,Ld,Le];rw[HS0.out]at hSc;obtain⟨p0,p1,p2,p3,p4,p5,p6,p7,p8⟩:=hSc;clear hne0 hneT hcl HS0 k0 k1 k2 k3 k4 k5 k6 k7 k8;go_wp2_with(go_at_call 60;refine(HC.out _ _ BLN).mono ?_;rintro e w9 ⟨rfl,vr9,vt9,vrs9,hR9,hK9⟩);(first|go_end0|((try simp only[Exit.inBlock,Exit.then]);refine bodyPost_ret (results_none rfl _ _ _) rfl ?_));rw[hX.out];exact⟨rfl,vr9,vt9,vrs9,hR9,Kp.trans (by first|exact HK2.out _|exact(HK2.out _).drew|exact(HK2.out _).drewN _) hK9⟩
  · have h2:decide ((s.pc:Int)<(il:Int))=false:=decide_eq_false ZO
    have h3:decide (s.pc<il)=false:=decide_eq_false h1;go_wp2
    go_quiet (fail)
    obtain⟨wz,hwz⟩:∃wz:World,wz=wc.drewN nq:=⟨_,rfl⟩;rw[← hwz];have hbz:Below wc.heap.size wc wz:=by rw[hwz];exact bdrewN (Br _ _) _
    have a3:=(hbz.cell (p:=⟨w.heap.size,3,none⟩) hb8).trans b3;have a4:=(hbz.cell (p:=⟨w.heap.size,4,none⟩) hb8).trans b4;have a5:=(hbz.cell (p:=⟨w.heap.size,5,none⟩) hb8).trans b5;have a6:=(hbz.cell (p:=⟨w.heap.size,6,none⟩) hb8).trans b6;have a8:=Nt hb8 hbz.size;have hz4:=h4.below hbz;have kz4:=k4.trans (Kp.below (D:=D) hbz (fun k hk _=>hk));have hWz:=hW4.trans (hbz.mono hW4.size);clear HK HW4 H4 HDc xl k8 f8 b2 b3 b4 b5 b6 hb8 h4 k4 hW4 hbz hwz hlil ki li;have HK:=Lh kz4;have HW4:=Lh hWz;have H4:=Lh hz4;have HDc:=Lh (show ∀k,D k→k<wz.heap.size from fun k hk=>Nt (HDD.out k hk) kz4.size);have xl:=hz4.box.lt;have htm:=HPT.out.2.2;have hnp:¬s.pc<(F.blk s.block).insts.length:=by rw[← HIL.out];exact h1
    have hvk:kd≠0→∃k:Nat,vr0=k∧k<F.vars.length:=fun e=>by
     have:=Y2 (YeA htm (by rw[← HKD.out];exact e));rw[← HVR.out]at this;exact⟨vr0.toNat,ZO,ZO⟩
    have htk:kd≠2→(∃k:Nat,t0=k∧k<F.blocks.length)∧(kd≠0→∃k:Nat,t1=k∧k<F.blocks.length):=fun e=>by
     unfold YX at htm;rw[← HKD.out]at htm
     by_cases e0:kd=0
     · rw[if_pos e0]at htm
       simp only[Bool.and_eq_true]at htm;have:=Y2 htm.1.1;rw[← HT0.out]at this;exact⟨⟨t0.toNat,ZO,ZO⟩,fun h=>absurd e0 h⟩
     · rw[if_neg e0]at htm
       by_cases e1:kd=1
       · rw[if_pos e1]at htm
         simp only[Bool.and_eq_true]at htm;have g0:=Y2 htm.1.2;have g1:=Y2 htm.2;rw[← HT0.out]at g0;rw[← HT1.out]at g1;exact⟨⟨t0.toNat,ZO,ZO⟩,fun _=>⟨t1.toNat,ZO,ZO⟩⟩
       · rw[if_neg e1,if_neg e]at htm
         cases htm
    have gil:=(hz4.ints.lt gi rfl).2;have gbl:=(hz4.bools.lt gb rfl).2;have z3:=hz4.box.cell 3;have z4:=hz4.box.cell 4;have z10:=hz4.box.cell 10;have g10:=hz4.box.frozen 10;replace z3:wz.cell? ⟨nb,3,none⟩=some (.slice (some ⟨gi,0,none⟩) F.vars.length F.vars.length):=z3;replace z4:wz.cell? ⟨nb,4,none⟩=some (.slice (some ⟨gb,0,none⟩) F.vars.length F.vars.length):=z4;replace z10:wz.cell? ⟨nb,10,none⟩=some (.int .i64 s.value):=z10
    have HSR:=Lh (show Yx F s=if kd=2 then({ s with steps:=wrap64 (s.steps+1),value:=s.int vr0 }:RSt).endW 0 else if kd=0∨s.boo vr0=true then YM F t0.toNat { s with steps:=wrap64 (s.steps+1) } else YM F t1.toNat { s with steps:=wrap64 (s.steps+1) } from by
     unfold Yx;dsimp only;rw[if_neg hnp,HKD.out,HVR.out,HT0.out,HT1.out]
     rfl)
    have HBX:=Lh (show ∀m n:Nat,Below wz.heap.size wz (((wz.drewN m).alloc (.cells #[.int .i64 kd,.int .i64 vr0,.int .i64 t0,.int .i64 t1] 60)).drewN n)from fun m n=>bdrewN ((bdrewN (Br wz.heap.size wz) m).alloc ZS _) n);have HEX:=Lh (fun(w':World) (hb:Below wz.heap.size wz w') (tb:Nat) (ht:tb<F.blocks.length)=>HEN.out w' (HW4.out.trans (hb.mono HW4.out.size)) vr vt vrs tb ht (fun k hk=>Nt (HDc.out k hk) hb.size) _ HI1.out (H4.out.below hb));have HIV:=Lh (fun(k:Nat) (hk:k<F.vars.length)=>Yn H4.out.ints hk);have HBV:=Lh (fun(k:Nat) (hk:k<F.vars.length)=>Y9 H4.out.bools hk);clear htm hnp hWz hz4 kz4
    by_cases e2:kd=2
    · as_aux_lemma=>
      obtain⟨kv,rfl,hkv⟩:=hvk ZO;have hkvI:(kv:Int)<(F.vars.length:Int):=by omega
      have iv:=HIV.out kv hkv;have HX:=Lh (HSR.out.trans (if_pos e2));have hv:s.int (kv:Int)=ith s.ints kv:=rfl;rw[hv]at HX;have HE:=Lh (fun(w':World) (hb:Below (wz.setCell ⟨nb,10,none⟩ (.int .i64 (ith s.ints kv))).heap.size (wz.setCell ⟨nb,10,none⟩ (.int .i64 (ith s.ints kv))) w')=>YbI ((H4.out.setBox (j:=10) (v:=.int .i64 (ith s.ints kv)) (s':={ s with steps:=wrap64 (s.steps+1),value:=ith s.ints kv }) rfl rfl rfl rfl rfl rfl).below hb) 0);have HKE:=Lh (Kp.setCell (p:=⟨nb,10,none⟩) HK.out HBS.out (.int .i64 (ith s.ints kv)));replace iv:wz.cell? ⟨gi,kv,none⟩=some (.int .i64 (ith s.ints kv)):=iv;have e2b:(kd==2)=true:=by rw[e2];rfl
      clear hvk htk HSR hv e2;generalize ith s.ints kv=iz at *;go_wp2_with fail;obtain⟨S0,hS0⟩:∃S0:World→Prop,S0=fun w'=>w'.cell? ⟨nb,3,none⟩=some (.slice (some ⟨gi,0,none⟩) F.vars.length F.vars.length)∧w'.cell? ⟨gi,kv,none⟩=some (.int .i64 iz)∧w'.cell? ⟨wz.heap.size,1,none⟩=some (.int .i64 (kv:Int))∧nb<w'.heap.size∧gi<w'.heap.size∧wz.heap.size<w'.heap.size:=⟨_,rfl⟩
      have HS0:=Lh hS0;clear hS0;have k0:=fun xw=>(WS.at HS0 xw).1
      have k1:=fun xw=>(WS.at HS0 xw).2.1
      have k2:=fun xw=>(WS.at HS0 xw).2.2.1
      have k3:=fun xw=>(WS.at HS0 xw).2.2.2.1
      have k4:=fun xw=>(WS.at HS0 xw).2.2.2.2.1
      have k5:=fun xw=>(WS.at HS0 xw).2.2.2.2.2
      refine YZ (S:=S0) [12] ZK ?hS (fun hSc hcl=>?_)
      case hS=>
       rw[HS0.out];exact⟨ZI,ZI,ZI,ZJ,ZJ,ZJ⟩
      have hne0:Nonempty (WS S0):=⟨⟨_,hSc⟩⟩;have hneT:Nonempty (WS (fun _=>True)):=match hne0 with|⟨x⟩=>⟨⟨x.w,trivial⟩⟩
      refine YT [(0,0),(1,0),(2,0),(3,0),(4,0),(5,0),(6,0),(7,0),(8,0),(9,0),(10,0),(11,0)] 1 rfl ZK (fun _ _ _ _ _ h=>h) hSc hcl ?_
      all_goals
       (try simp only[List.map_cons,List.map_nil,Ld,Le])
       repeat
        first
        |((with_reducible refine YU ?_ ?_);exact rfl;dsimp only;go_big_quiet_step (fail);(try with_reducible refine wpQuiet_nil ?_);(try dsimp only))
        |((with_reducible refine YV ?_ ?_);exact rfl;dsimp only;go_big_quiet_step (fail);(try with_reducible refine wpQuiet_nil ?_);(try dsimp only))
       (try(refine YW ?_;intro hSc hcl))
      all_goals
       refine Y0 [12] rfl ZK ?_;simp only[List.map_cons,List.map_nil,Ld,Le];rw[HS0.out]at hSc;obtain⟨p0,p1,p2,p3,p4,p5⟩:=hSc;clear hne0 hneT hcl HS0 k0 k1 k2 k3 k4 k5;go_wp2_with(go_at_call 61;refine(HE.out _ BL).mono ?_;rintro e w9 ⟨rfl,hR9,hK9⟩);(first|go_end0|((try simp only[Exit.inBlock,Exit.then]);refine bodyPost_ret (results_none rfl _ _ _) rfl ?_));rw[HX.out];exact⟨rfl,_,_,_,hR9,Kp.trans (by first|exact(HKE.out.alloc _).drew|exact HKE.out.drew|exact HKE.out) hK9⟩
    · have e2b:(kd==2)=false:=by rw[beq_eq_false_iff_ne];exact e2
      obtain⟨⟨tb,rfl,htb⟩,ht1⟩:=htk e2;have HX:=Lh (HSR.out.trans (if_neg e2))
      by_cases e0:kd=0
      · as_aux_lemma=>
        have HY:=Lh (HX.out.trans (if_pos (.inl e0)));have e0b:(kd==0)=true:=by rw[e0];rfl
        clear hvk htk HSR e2 e0 ht1;go_wp2
        go_quiet (fail)
        go_wp2_with(go_at_call 62;refine(HEX.out _ (by first|exact HBX.out _ _|exact BLN) tb htb).mono ?_;rintro e w9 ⟨rfl,vr9,vt9,vrs9,hR9,hK9⟩);(first|go_end0|((try simp only[Exit.inBlock,Exit.then]);refine bodyPost_ret (results_none rfl _ _ _) rfl ?_));rw[HY.out];exact⟨rfl,vr9,vt9,vrs9,hR9,Kp.trans ZP hK9⟩
      · obtain⟨kv,rfl,hkv⟩:=hvk e0
        have hkvI:(kv:Int)<(F.vars.length:Int):=by omega
        have bv:=HBV.out kv hkv;obtain⟨tb1,rfl,htb1⟩:=ht1 e0;have e0b:(kd==0)=false:=by rw[beq_eq_false_iff_ne];exact e0
        have hv:s.boo (kv:Int)=s.bools.getD kv false:=rfl;rw[hv]at HX;replace bv:wz.cell? ⟨gb,kv,none⟩=some (.bool (s.bools.getD kv false)):=bv;have HXX:Hid (Yx F s=if s.bools.getD kv false=true then YM F tb { s with steps:=wrap64 (s.steps+1) } else YM F tb1 { s with steps:=wrap64 (s.steps+1) }):=by
         refine HX.out.trans ?_;cases s.bools.getD kv false
         · exact(if_neg (by simp[e0])).trans (if_neg ZS).symm
         · exact(if_pos (.inr rfl)).trans (if_pos rfl).symm
        clear hvk htk HSR e2 e0 ht1 hv HX;generalize s.bools.getD kv false=z at *;cases z
        · as_aux_lemma=>
          have HY:=Lh (HXX.out.trans (if_neg ZS));go_wp2
          go_quiet (fail)
          go_wp2_with(go_at_call 62;refine(HEX.out _ (by first|exact HBX.out _ _|exact BLN) tb1 htb1).mono ?_;rintro e w9 ⟨rfl,vr9,vt9,vrs9,hR9,hK9⟩);(first|go_end0|((try simp only[Exit.inBlock,Exit.then]);refine bodyPost_ret (results_none rfl _ _ _) rfl ?_));rw[HY.out];exact⟨rfl,vr9,vt9,vrs9,hR9,Kp.trans ZP hK9⟩
        · as_aux_lemma=>
          have HY:=Lh (HXX.out.trans (if_pos rfl));go_wp2
          go_quiet (fail)
          go_wp2_with(go_at_call 62;refine(HEX.out _ (by first|exact HBX.out _ _|exact BLN) tb htb).mono ?_;rintro e w9 ⟨rfl,vr9,vt9,vrs9,hR9,hK9⟩);(first|go_end0|((try simp only[Exit.inBlock,Exit.then]);refine bodyPost_ret (results_none rfl _ _ _) rfl ?_));rw[HY.out];exact⟨rfl,vr9,vt9,vrs9,hR9,Kp.trans ZP hK9⟩
end
end Go.Proofs.YthhjlbflpjhahaaGreatDoor
