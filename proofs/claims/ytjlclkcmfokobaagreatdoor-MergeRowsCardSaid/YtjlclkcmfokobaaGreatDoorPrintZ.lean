/- The walks of package print: is an instruction, a phi, an end shaped? -/
import Derived.Test.YtjlclkcmfokobaaGreatDoorOpsZ
import Derived.Test.YtjlclkcmfokobaaGreatDoorZedZ
namespace Go.Proofs.YtjlclkcmfokobaaGreatDoor
open Go.RowKit
set_option maxRecDepth 100000
theorem PhiV.open_{W:World}{v:Value}{p:PPhi}(h:PhiV W W.heap.size v p):∃A1 c1 A2 c2,v=.agg #[.int .i64 p.dst,.slice A1 p.args.length c1,.slice A2 p.froms.length c2]∧
 Len p.args.length∧Len p.froms.length∧p.args.length≤c1∧p.froms.length≤c2∧Rd W.heap.size A1 p.args 1 (Yk W)∧Rd W.heap.size A2 p.froms 1 (Yk W):=by
 obtain⟨v1,v2,rfl,⟨A1,c1,rfl,l1,k1,r1⟩,A2,c2,rfl,l2,k2,r2⟩:=h;exact⟨A1,c1,A2,c2,rfl,l1,l2,k1,k2,r1,r2⟩
theorem InstV.open_{W:World}{v:Value}{p:PInst}(h:InstV W W.heap.size v p):∃A1 c1,v=.agg #[.int .i64 p.op,.int .i64 p.dst,.slice A1 p.args.length c1,.int .i64 p.num]∧
 Len p.args.length∧p.args.length≤c1∧Rd W.heap.size A1 p.args 1 (Yk W):=by
 obtain⟨v1,rfl,A1,c1,rfl,l1,k1,r1⟩:=h;exact⟨A1,c1,rfl,l1,k1,r1⟩
theorem Ykq:∀args w,(callFunc 192 args).run Tryz.prog w=.ok (.enter 192 args) w:=fun _ _=>by kernel_rfl
theorem Ykr{W w:World}{fv c:Value}{F:PFunc}(hF:FnV W W.heap.size fv F)(hc:FnBox w c fv)(v:Int) :
 Calls Tryz.prog 192 #[.int .i64 v,c] w fun e w'=>e=.returned (.bool (!inB v F.blocks.length))∧Below w.heap.size w w':=by
 obtain⟨b,x,y,z,rfl,rfl,hl,h0,h1,h2⟩:=hc;go_enter Tryz.func192,Tryz.ntmps192;go_wp2_with(go_at_call 193;refine(Ye1 hF v).mono ?_;rintro e w1 ⟨rfl,hb⟩);go_ret;exact⟨rfl,hb⟩
theorem Yks{W w:World}{fv c:Value}{F:PFunc}(hF:FnV W W.heap.size fv F)(hc:FnBox w c fv)(xs:List Int):Yd9 w 192 c xs (fun v=>!inB v F.blocks.length):=
 fun x _ _ hb=>Ykr hF (hc.later hb) x
def YcW(F:PFunc)(l:List Int):Bool:=l.all fun v=>inB v F.blocks.length
def YI(F:PFunc)(p:PPhi):Bool:=decide (p.args.length≠0)&&decide (p.args.length=p.froms.length)&&inB p.dst F.vars.length&&Yw F p.args&&YcW F p.froms
theorem FnBox.keep{w w':World}{c fv:Value}(h:FnBox w c fv){B:Nat}(hB:w.heap.size≤B)(hb:Below B w w'):FnBox w' c fv:=h.later (hb.mono hB)
set_option maxHeartbeats 1000000 in
theorem Ykt{W w:World}{fv pv:Value}{F:PFunc}{p:PPhi}(hF:FnV W W.heap.size fv F)(hp:PhiV W W.heap.size pv p)(hW:Below W.heap.size W w) :
 Calls Tryz.prog 162 #[fv,pv] w fun e w'=>e=.returned (.bool (YI F p))∧Below w.heap.size w w':=by
 obtain⟨A0,c0,A1,c1,A2,c2,rfl,-⟩:=id hF.open_;obtain⟨A3,c3,A4,c4,rfl,l3,l4,k3,k4,r3,r4⟩:=id hp.open_;unfold Len at *;have hWs:=hW.size
 by_cases e0:p.args.length=0
 · have e0':((p.args.length:Int)==0)=true:=by simpa using e0
   have HF:=Lh (show YI F p=false by simp[YI,e0]);clear e0;go_enter Tryz.func162,Tryz.ntmps162;go_wp2;go_ret;exact⟨Yb HF.out.symm,BL⟩
 have e0':((p.args.length:Int)==0)=false:=by simpa using e0
 by_cases e1:p.args.length=p.froms.length
 case neg=>
  have e1':((p.args.length:Int) !=(p.froms.length:Int))=true:=by rw[bne_iff_ne];omega
  have HF:=Lh (show YI F p=false by simp[YI,e1]);clear e0 e1;go_enter Tryz.func162,Tryz.ntmps162;go_wp2;go_ret;exact⟨Yb HF.out.symm,BL⟩
 have e1':((p.args.length:Int) !=(p.froms.length:Int))=false:=by rw[bne_eq_false_iff_eq];omega
 have HE:=Lh e1;have d0:decide (p.args.length≠0)=true:=by simpa using e0
 have d1:decide (p.args.length=p.froms.length)=true:=by simpa using e1
 have HF:=Lh (show YI F p=(inB p.dst F.vars.length&&Yw F p.args&&YcW F p.froms) by rw[YI,d0,d1];simp);clear e0 e1 d0 d1;have h1:=fun w=>Yd6 (w:=w) hF p.dst
 cases b1:inB p.dst F.vars.length
 · rw[b1]at HF h1
   clear b1;go_enter Tryz.func162,Tryz.ntmps162;go_wp2_with(go_at_call 190;refine(h1 _).mono ?_;(rintro e w1 ⟨rfl,hb1⟩;obtain⟨hc1,hf1⟩:=Ya hb1;have hz1:=hb1.size;try simp at hz1;try have hy1:=Nl hz1;try have hx1:=Ns hy1;try have hw1:=Ns hx1));go_ret;exact⟨Yb HF.out.symm,BL⟩
 rw[b1]at HF h1;clear b1;have h2:=fun(w:World) (h:Below W.heap.size W w)=>YgS (c0:=c3) hF h r3 l3
 cases b2:Yw F p.args
 · rw[b2]at HF h2
   clear b2;go_enter Tryz.func162,Tryz.ntmps162;go_wp2_with(first|(go_at_call 190;refine(h1 _).mono ?_;(rintro e w1 ⟨rfl,hb1⟩;obtain⟨hc1,hf1⟩:=Ya hb1;have hz1:=hb1.size;try simp at hz1;try have hy1:=Nl hz1;try have hx1:=Ns hy1;try have hw1:=Ns hx1))|(go_at_call 191;refine(h2 _ BL).mono ?_;(rintro e w2 ⟨rfl,hb2⟩;obtain⟨hc2,hf2⟩:=Ya hb2;have hz2:=hb2.size;try simp at hz2;try have hy2:=Nl hz2;try have hx2:=Ns hy2;try have hw2:=Ns hx2)));go_ret;exact⟨Yb HF.out.symm,BL⟩
 rw[b2]at HF h2;clear b2;go_enter Tryz.func162,Tryz.ntmps162;go_wp2_with(first|(go_at_call 190;refine(h1 _).mono ?_;(rintro e w1 ⟨rfl,hb1⟩;obtain⟨hc1,hf1⟩:=Ya hb1;have hz1:=hb1.size;try simp at hz1;try have hy1:=Nl hz1;try have hx1:=Ns hy1;try have hw1:=Ns hx1))|(go_at_call 191;refine(h2 _ BL).mono ?_;(rintro e w2 ⟨rfl,hb2⟩;obtain⟨hc2,hf2⟩:=Ya hb2;have hz2:=hb2.size;try simp at hz2;try have hy2:=Nl hz2;try have hx2:=Ns hy2;try have hw2:=Ns hx2))|(go_at_call 152;refine(YgR r4 l4 BL _ _ _ Ykq (Yks hF ((((FnBox.new _ _ _ _ _).later ((Br _ _).alloc (Nr _) _)).later hb1).later hb2) p.froms)).mono ?_;(rintro e w3 ⟨rfl,hb3⟩;obtain⟨hc3,hf3⟩:=Ya hb3;have hz3:=hb3.size;try simp at hz3;try have hy3:=Nl hz3;try have hx3:=Ns hy3;try have hw3:=Ns hx3)));go_ret;exact⟨Yb (by rw[HF.out];simp[YcW,List.all_eq_not_any_not]),BL⟩
theorem Yku(op:Int):(YcS op).toList.isEmpty=!Yaq op:=by
 have key:∀n,n<27→(bs (kindAt n).1).toList.isEmpty=false:=by decide +kernel
 unfold YcS;cases hi:Yaq op
 · rw[Ye9 hi];decide +kernel
 · rw[Ye8 hi]
   have:=YQ hi;exact key op.toNat ZO
def YaX(F:PFunc)(x:PInst):Bool:=if Yaf x.op then inB x.dst F.vars.length else decide (x.dst=-1)
def Ym(F:PFunc)(x:PInst):Bool:=Yaq x.op&&decide (x.args.length=(YM x.op).length)&&Yw F x.args&&YaX F x&&(decide (x.num=0)||decide (x.op=0∨x.op=25))
set_option maxHeartbeats 2000000 in
theorem Ykv{W w:World}{fv xv:Value}{F:PFunc}{x:PInst}(hF:FnV W W.heap.size fv F)(hx:InstV W W.heap.size xv x)(hW:Below W.heap.size W w) :
 Calls Tryz.prog 164 #[fv,xv] w fun e w'=>e=.returned (.bool (Ym F x))∧Below w.heap.size w w':=by
 obtain⟨A0,c0,A1,c1,A2,c2,rfl,-⟩:=id hF.open_;obtain⟨A3,c3,rfl,l3,k3,r3⟩:=id hx.open_;unfold Len at *;have hWs:=hW.size;have hmk:=fun w=>YgQ (w:=w) x.op
 have hwd:=fun w=>Ykc (w:=w) x.op
 have hwe:=Yku x.op;have h2:=fun(w:World) (h:Below W.heap.size W w)=>YgS (c0:=c3) hF h r3 l3
 cases ho:Yaq x.op
 · have HF:=Lh (show Ym F x=false by simp[Ym,ho])
   replace hwe:(YcS x.op).toList.isEmpty=true:=by rw[hwe,ho];rfl
   clear ho;go_enter Tryz.func164,Tryz.ntmps164;go_wp2_with(go_at_call 170;refine(hmk _).mono ?_;(rintro e w1 ⟨rfl,hb1⟩;obtain⟨hc1,hf1⟩:=Ya hb1;have hz1:=hb1.size;try simp at hz1;try have hy1:=Nl hz1;try have hx1:=Ns hy1;try have hw1:=Ns hx1));obtain⟨S0,hS0⟩:∃S0:World→Prop,S0=fun w'=>w'.cell? ⟨w.heap.size+1,0,none⟩=some (.int .i64 x.op)∧w'.cell? ⟨w.heap.size+1,2,none⟩=some (.slice A3 x.args.length c3)∧w'.cell? ⟨w.heap.size,0,none⟩=some (.slice A0 F.vars.length c0)∧w'.cell? ⟨w.heap.size,1,none⟩=some (.slice A1 F.params.length c1)∧w'.cell? ⟨w.heap.size,2,none⟩=some (.slice A2 F.blocks.length c2)∧w'.cell? ⟨w.heap.size+1,1,none⟩=some (.int .i64 x.dst)∧w'.cell? ⟨w.heap.size+1,3,none⟩=some (.int .i64 x.num)∧Below w.heap.size w w'∧w.heap.size+1<w'.heap.size:=⟨_,rfl⟩
   have HS0:=Lh hS0;clear hS0;have k0:=fun xw=>(WS.at HS0 xw).1
   have k1:=fun xw=>(WS.at HS0 xw).2.1
   have k2:=fun xw=>(WS.at HS0 xw).2.2.1
   have k3:=fun xw=>(WS.at HS0 xw).2.2.2.1
   have k4:=fun xw=>(WS.at HS0 xw).2.2.2.2.1
   have k5:=fun xw=>(WS.at HS0 xw).2.2.2.2.2.1
   have k6:=fun xw=>(WS.at HS0 xw).2.2.2.2.2.2.1
   have k7:=fun xw=>(WS.at HS0 xw).2.2.2.2.2.2.2.1
   have k8:=fun xw=>(WS.at HS0 xw).2.2.2.2.2.2.2.2
   refine Yz (S:=S0) [0,1,2,3,4,5,6,7,8,9,10,11,12,13,14,15,16,17,18,19,20,21] ZK ZK (fun _ _ _ _ _ h=>h) ?hS (fun hSc=>?_)
   case hS=>
    rw[HS0.out];exact⟨ZI,ZI,ZI,ZI,ZI,ZI,ZI,BL,ZJ⟩
   have hne0:Nonempty (WS S0):=⟨⟨_,hSc⟩⟩;simp only[List.map_cons,List.map_nil,Ld,Le]
   repeat
    first
    |((with_reducible refine YA ?_ ?_);exact rfl;go_big_quiet_step (fail);(try with_reducible refine wpQuiet_nil ?_);(try dsimp only))
    |((with_reducible refine YF ?_ ?_ (fun K hK=>?_))
      exact rfl;exact rfl;go_simp;(try go_wp2_with(first|(go_at_call 194;refine(hwd _).mono ?_;(rintro e w9 ⟨rfl,hb9⟩;obtain⟨hc9,hf9⟩:=Ya hb9;have hz9:=hb9.size;try simp at hz9;try have hy9:=Nl hz9;try have hx9:=Ns hy9;try have hw9:=Ns hx9))|(go_at_call 169;refine(Yce _).mono ?_;(rintro e w9 ⟨A9,c9,rfl,l9,k9,r9,hb9⟩;obtain⟨hc9,hf9⟩:=Ya hb9;have hz9:=hb9.size;try simp at hz9;try have hy9:=Nl hz9;try have hx9:=Ns hy9;try have hw9:=Ns hx9))|(go_at_call 191;refine(h2 _ (hW.trans ((k7 ⟨_,hSc⟩).mono hWs))).mono ?_;(rintro e w9 ⟨rfl,hb9⟩;obtain⟨hc9,hf9⟩:=Ya hb9;have hz9:=hb9.size;try simp at hz9;try have hy9:=Nl hz9;try have hx9:=Ns hy9;try have hw9:=Ns hx9))));refine hK.out _ _ ?hS (fun hSc=>?_)
      case hS=>
       first
       |exact hSc
       |(rw[HS0.out]at hSc ⊢;obtain⟨p0,p1,p2,p3,p4,p5,p6,p7,p8⟩:=hSc;exact⟨ZC0,ZC1,ZC2,ZC3,ZC4,ZC5,ZC6,ZL7,ZT8⟩)
      clear hK K)
    |((with_reducible refine Ydo ?_ ?_);exact rfl;simp only[Act.put,La,Lz,Lc])
   refine YB ?_;rw[HS0.out]at hSc;obtain⟨p0,p1,p2,p3,p4,p5,p6,p7,p8⟩:=hSc;clear hne0 HS0 k0 k1 k2 k3 k4 k5 k6 k7 k8;go_wp2;go_ret;exact⟨Yb HF.out.symm,p7⟩
 replace hwe:(YcS x.op).toList.isEmpty=false:=by rw[hwe,ho];rfl
 by_cases hl:x.args.length=(YM x.op).length
 case neg=>
  have HF:=Lh (show Ym F x=false by simp[Ym,hl]);have hl':((x.args.length:Int) !=((YM x.op).length:Int))=true:=by rw[bne_iff_ne];omega
  clear hl ho;go_enter Tryz.func164,Tryz.ntmps164;go_wp2_with(go_at_call 170;refine(hmk _).mono ?_;(rintro e w1 ⟨rfl,hb1⟩;obtain⟨hc1,hf1⟩:=Ya hb1;have hz1:=hb1.size;try simp at hz1;try have hy1:=Nl hz1;try have hx1:=Ns hy1;try have hw1:=Ns hx1));obtain⟨S0,hS0⟩:∃S0:World→Prop,S0=fun w'=>w'.cell? ⟨w.heap.size+1,0,none⟩=some (.int .i64 x.op)∧w'.cell? ⟨w.heap.size+1,2,none⟩=some (.slice A3 x.args.length c3)∧w'.cell? ⟨w.heap.size,0,none⟩=some (.slice A0 F.vars.length c0)∧w'.cell? ⟨w.heap.size,1,none⟩=some (.slice A1 F.params.length c1)∧w'.cell? ⟨w.heap.size,2,none⟩=some (.slice A2 F.blocks.length c2)∧w'.cell? ⟨w.heap.size+1,1,none⟩=some (.int .i64 x.dst)∧w'.cell? ⟨w.heap.size+1,3,none⟩=some (.int .i64 x.num)∧Below w.heap.size w w'∧w.heap.size+1<w'.heap.size:=⟨_,rfl⟩
  have HS0:=Lh hS0;clear hS0;have k0:=fun xw=>(WS.at HS0 xw).1
  have k1:=fun xw=>(WS.at HS0 xw).2.1
  have k2:=fun xw=>(WS.at HS0 xw).2.2.1
  have k3:=fun xw=>(WS.at HS0 xw).2.2.2.1
  have k4:=fun xw=>(WS.at HS0 xw).2.2.2.2.1
  have k5:=fun xw=>(WS.at HS0 xw).2.2.2.2.2.1
  have k6:=fun xw=>(WS.at HS0 xw).2.2.2.2.2.2.1
  have k7:=fun xw=>(WS.at HS0 xw).2.2.2.2.2.2.2.1
  have k8:=fun xw=>(WS.at HS0 xw).2.2.2.2.2.2.2.2
  refine Yz (S:=S0) [0,1,2,3,4,5,6,7,8,9,10,11,12,13,14,15,16,17,18,19,20,21] ZK ZK (fun _ _ _ _ _ h=>h) ?hS (fun hSc=>?_)
  case hS=>
   rw[HS0.out];exact⟨ZI,ZI,ZI,ZI,ZI,ZI,ZI,BL,ZJ⟩
  have hne0:Nonempty (WS S0):=⟨⟨_,hSc⟩⟩;simp only[List.map_cons,List.map_nil,Ld,Le]
  repeat
   first
   |((with_reducible refine YA ?_ ?_);exact rfl;go_big_quiet_step (fail);(try with_reducible refine wpQuiet_nil ?_);(try dsimp only))
   |((with_reducible refine YF ?_ ?_ (fun K hK=>?_))
     exact rfl;exact rfl;go_simp;(try go_wp2_with(first|(go_at_call 194;refine(hwd _).mono ?_;(rintro e w9 ⟨rfl,hb9⟩;obtain⟨hc9,hf9⟩:=Ya hb9;have hz9:=hb9.size;try simp at hz9;try have hy9:=Nl hz9;try have hx9:=Ns hy9;try have hw9:=Ns hx9))|(go_at_call 169;refine(Yce _).mono ?_;(rintro e w9 ⟨A9,c9,rfl,l9,k9,r9,hb9⟩;obtain⟨hc9,hf9⟩:=Ya hb9;have hz9:=hb9.size;try simp at hz9;try have hy9:=Nl hz9;try have hx9:=Ns hy9;try have hw9:=Ns hx9))|(go_at_call 191;refine(h2 _ (hW.trans ((k7 ⟨_,hSc⟩).mono hWs))).mono ?_;(rintro e w9 ⟨rfl,hb9⟩;obtain⟨hc9,hf9⟩:=Ya hb9;have hz9:=hb9.size;try simp at hz9;try have hy9:=Nl hz9;try have hx9:=Ns hy9;try have hw9:=Ns hx9))));refine hK.out _ _ ?hS (fun hSc=>?_)
     case hS=>
      first
      |exact hSc
      |(rw[HS0.out]at hSc ⊢;obtain⟨p0,p1,p2,p3,p4,p5,p6,p7,p8⟩:=hSc;exact⟨ZC0,ZC1,ZC2,ZC3,ZC4,ZC5,ZC6,ZL7,ZT8⟩)
     clear hK K)
   |((with_reducible refine Ydo ?_ ?_);exact rfl;simp only[Act.put,La,Lz,Lc])
  refine YB ?_;rw[HS0.out]at hSc;obtain⟨p0,p1,p2,p3,p4,p5,p6,p7,p8⟩:=hSc;clear hne0 HS0 k0 k1 k2 k3 k4 k5 k6 k7 k8;go_wp2;go_ret;exact⟨Yb HF.out.symm,p7⟩
 have hl':((x.args.length:Int) !=((YM x.op).length:Int))=false:=by rw[bne_eq_false_iff_eq];omega
 have HF:=Lh (show Ym F x=(Yw F x.args&&YaX F x&&(decide (x.num=0)||decide (x.op=0∨x.op=25))) by simp[Ym,ho,hl]);clear hl ho;cases hv:Yw F x.args
 · rw[hv]at HF h2
   clear hv;go_enter Tryz.func164,Tryz.ntmps164;go_wp2_with(go_at_call 170;refine(hmk _).mono ?_;(rintro e w1 ⟨rfl,hb1⟩;obtain⟨hc1,hf1⟩:=Ya hb1;have hz1:=hb1.size;try simp at hz1;try have hy1:=Nl hz1;try have hx1:=Ns hy1;try have hw1:=Ns hx1));obtain⟨S0,hS0⟩:∃S0:World→Prop,S0=fun w'=>w'.cell? ⟨w.heap.size+1,0,none⟩=some (.int .i64 x.op)∧w'.cell? ⟨w.heap.size+1,2,none⟩=some (.slice A3 x.args.length c3)∧w'.cell? ⟨w.heap.size,0,none⟩=some (.slice A0 F.vars.length c0)∧w'.cell? ⟨w.heap.size,1,none⟩=some (.slice A1 F.params.length c1)∧w'.cell? ⟨w.heap.size,2,none⟩=some (.slice A2 F.blocks.length c2)∧w'.cell? ⟨w.heap.size+1,1,none⟩=some (.int .i64 x.dst)∧w'.cell? ⟨w.heap.size+1,3,none⟩=some (.int .i64 x.num)∧Below w.heap.size w w'∧w.heap.size+1<w'.heap.size:=⟨_,rfl⟩
   have HS0:=Lh hS0;clear hS0;have k0:=fun xw=>(WS.at HS0 xw).1
   have k1:=fun xw=>(WS.at HS0 xw).2.1
   have k2:=fun xw=>(WS.at HS0 xw).2.2.1
   have k3:=fun xw=>(WS.at HS0 xw).2.2.2.1
   have k4:=fun xw=>(WS.at HS0 xw).2.2.2.2.1
   have k5:=fun xw=>(WS.at HS0 xw).2.2.2.2.2.1
   have k6:=fun xw=>(WS.at HS0 xw).2.2.2.2.2.2.1
   have k7:=fun xw=>(WS.at HS0 xw).2.2.2.2.2.2.2.1
   have k8:=fun xw=>(WS.at HS0 xw).2.2.2.2.2.2.2.2
   refine Yz (S:=S0) [0,1,2,3,4,5,6,7,8,9,10,11,12,13,14,15,16,17,18,19,20,21] ZK ZK (fun _ _ _ _ _ h=>h) ?hS (fun hSc=>?_)
   case hS=>
    rw[HS0.out];exact⟨ZI,ZI,ZI,ZI,ZI,ZI,ZI,BL,ZJ⟩
   have hne0:Nonempty (WS S0):=⟨⟨_,hSc⟩⟩;simp only[List.map_cons,List.map_nil,Ld,Le]
   repeat
    first
    |((with_reducible refine YA ?_ ?_);exact rfl;go_big_quiet_step (fail);(try with_reducible refine wpQuiet_nil ?_);(try dsimp only))
    |((with_reducible refine YF ?_ ?_ (fun K hK=>?_))
      exact rfl;exact rfl;go_simp;(try go_wp2_with(first|(go_at_call 194;refine(hwd _).mono ?_;(rintro e w9 ⟨rfl,hb9⟩;obtain⟨hc9,hf9⟩:=Ya hb9;have hz9:=hb9.size;try simp at hz9;try have hy9:=Nl hz9;try have hx9:=Ns hy9;try have hw9:=Ns hx9))|(go_at_call 169;refine(Yce _).mono ?_;(rintro e w9 ⟨A9,c9,rfl,l9,k9,r9,hb9⟩;obtain⟨hc9,hf9⟩:=Ya hb9;have hz9:=hb9.size;try simp at hz9;try have hy9:=Nl hz9;try have hx9:=Ns hy9;try have hw9:=Ns hx9))|(go_at_call 191;refine(h2 _ (hW.trans ((k7 ⟨_,hSc⟩).mono hWs))).mono ?_;(rintro e w9 ⟨rfl,hb9⟩;obtain⟨hc9,hf9⟩:=Ya hb9;have hz9:=hb9.size;try simp at hz9;try have hy9:=Nl hz9;try have hx9:=Ns hy9;try have hw9:=Ns hx9))));refine hK.out _ _ ?hS (fun hSc=>?_)
      case hS=>
       first
       |exact hSc
       |(rw[HS0.out]at hSc ⊢;obtain⟨p0,p1,p2,p3,p4,p5,p6,p7,p8⟩:=hSc;exact⟨ZC0,ZC1,ZC2,ZC3,ZC4,ZC5,ZC6,ZL7,ZT8⟩)
      clear hK K)
   refine YB ?_;rw[HS0.out]at hSc;obtain⟨p0,p1,p2,p3,p4,p5,p6,p7,p8⟩:=hSc;clear hne0 HS0 k0 k1 k2 k3 k4 k5 k6 k7 k8;go_wp2;go_ret;exact⟨Yb HF.out.symm,p7⟩
 rw[hv]at HF h2;clear hv;have h1:=fun w=>Yd6 (w:=w) hF x.dst
 have hnb:=fun w=>Yke (w:=w) x.op
 unfold YaX at HF;cases hm:Yaf x.op
 · rw[hm]at HF hmk
   clear hm
   by_cases hd:x.dst=-1
   · have HD:=Lh hd
     have hd':(x.dst !=-1)=false:=by rw[hd];rfl
     clear hd
     by_cases hn:x.num=0
     all_goals
      go_enter Tryz.func164,Tryz.ntmps164;go_wp2_with(go_at_call 170;refine(hmk _).mono ?_;(rintro e w1 ⟨rfl,hb1⟩;obtain⟨hc1,hf1⟩:=Ya hb1;have hz1:=hb1.size;try simp at hz1;try have hy1:=Nl hz1;try have hx1:=Ns hy1;try have hw1:=Ns hx1));obtain⟨S0,hS0⟩:∃S0:World→Prop,S0=fun w'=>w'.cell? ⟨w.heap.size+1,0,none⟩=some (.int .i64 x.op)∧w'.cell? ⟨w.heap.size+1,2,none⟩=some (.slice A3 x.args.length c3)∧w'.cell? ⟨w.heap.size,0,none⟩=some (.slice A0 F.vars.length c0)∧w'.cell? ⟨w.heap.size,1,none⟩=some (.slice A1 F.params.length c1)∧w'.cell? ⟨w.heap.size,2,none⟩=some (.slice A2 F.blocks.length c2)∧w'.cell? ⟨w.heap.size+1,1,none⟩=some (.int .i64 x.dst)∧w'.cell? ⟨w.heap.size+1,3,none⟩=some (.int .i64 x.num)∧Below w.heap.size w w'∧w.heap.size+1<w'.heap.size:=⟨_,rfl⟩
      have HS0:=Lh hS0;clear hS0;have k0:=fun xw=>(WS.at HS0 xw).1
      have k1:=fun xw=>(WS.at HS0 xw).2.1
      have k2:=fun xw=>(WS.at HS0 xw).2.2.1
      have k3:=fun xw=>(WS.at HS0 xw).2.2.2.1
      have k4:=fun xw=>(WS.at HS0 xw).2.2.2.2.1
      have k5:=fun xw=>(WS.at HS0 xw).2.2.2.2.2.1
      have k6:=fun xw=>(WS.at HS0 xw).2.2.2.2.2.2.1
      have k7:=fun xw=>(WS.at HS0 xw).2.2.2.2.2.2.2.1
      have k8:=fun xw=>(WS.at HS0 xw).2.2.2.2.2.2.2.2
      refine Yz (S:=S0) [0,1,2,3,4,5,6,7,8,9,10,11,12,13,14,15,16,17,18,19,20,21] ZK ZK (fun _ _ _ _ _ h=>h) ?hS (fun hSc=>?_)
      case hS=>
       rw[HS0.out];exact⟨ZI,ZI,ZI,ZI,ZI,ZI,ZI,BL,ZJ⟩
      have hne0:Nonempty (WS S0):=⟨⟨_,hSc⟩⟩;simp only[List.map_cons,List.map_nil,Ld,Le]
      repeat
       first
       |((with_reducible refine YA ?_ ?_);exact rfl;go_big_quiet_step (fail);(try with_reducible refine wpQuiet_nil ?_);(try dsimp only))
       |((with_reducible refine YF ?_ ?_ (fun K hK=>?_))
         exact rfl;exact rfl;go_simp;(try go_wp2_with(first|(go_at_call 194;refine(hwd _).mono ?_;(rintro e w9 ⟨rfl,hb9⟩;obtain⟨hc9,hf9⟩:=Ya hb9;have hz9:=hb9.size;try simp at hz9;try have hy9:=Nl hz9;try have hx9:=Ns hy9;try have hw9:=Ns hx9))|(go_at_call 169;refine(Yce _).mono ?_;(rintro e w9 ⟨A9,c9,rfl,l9,k9,r9,hb9⟩;obtain⟨hc9,hf9⟩:=Ya hb9;have hz9:=hb9.size;try simp at hz9;try have hy9:=Nl hz9;try have hx9:=Ns hy9;try have hw9:=Ns hx9))|(go_at_call 191;refine(h2 _ (hW.trans ((k7 ⟨_,hSc⟩).mono hWs))).mono ?_;(rintro e w9 ⟨rfl,hb9⟩;obtain⟨hc9,hf9⟩:=Ya hb9;have hz9:=hb9.size;try simp at hz9;try have hy9:=Nl hz9;try have hx9:=Ns hy9;try have hw9:=Ns hx9))));refine hK.out _ _ ?hS (fun hSc=>?_)
         case hS=>
          first
          |exact hSc
          |(rw[HS0.out]at hSc ⊢;obtain⟨p0,p1,p2,p3,p4,p5,p6,p7,p8⟩:=hSc;exact⟨ZC0,ZC1,ZC2,ZC3,ZC4,ZC5,ZC6,ZL7,ZT8⟩)
         clear hK K)
      refine YB ?_;rw[HS0.out]at hSc;obtain⟨p0,p1,p2,p3,p4,p5,p6,p7,p8⟩:=hSc;clear hne0 HS0 k0 k1 k2 k3 k4 k5 k6 k7 k8;go_wp2_with(go_at_call 195;refine(hnb _).mono ?_;rintro e w1 ⟨rfl,rfl⟩);go_ret;exact⟨Yb (by rw[HF.out];simp[HD.out,hn]),p7⟩
   · have HD:=Lh hd
     have hd':(x.dst !=-1)=true:=by simpa using hd
     clear hd;go_enter Tryz.func164,Tryz.ntmps164;go_wp2_with(go_at_call 170;refine(hmk _).mono ?_;(rintro e w1 ⟨rfl,hb1⟩;obtain⟨hc1,hf1⟩:=Ya hb1;have hz1:=hb1.size;try simp at hz1;try have hy1:=Nl hz1;try have hx1:=Ns hy1;try have hw1:=Ns hx1));obtain⟨S0,hS0⟩:∃S0:World→Prop,S0=fun w'=>w'.cell? ⟨w.heap.size+1,0,none⟩=some (.int .i64 x.op)∧w'.cell? ⟨w.heap.size+1,2,none⟩=some (.slice A3 x.args.length c3)∧w'.cell? ⟨w.heap.size,0,none⟩=some (.slice A0 F.vars.length c0)∧w'.cell? ⟨w.heap.size,1,none⟩=some (.slice A1 F.params.length c1)∧w'.cell? ⟨w.heap.size,2,none⟩=some (.slice A2 F.blocks.length c2)∧w'.cell? ⟨w.heap.size+1,1,none⟩=some (.int .i64 x.dst)∧w'.cell? ⟨w.heap.size+1,3,none⟩=some (.int .i64 x.num)∧Below w.heap.size w w'∧w.heap.size+1<w'.heap.size:=⟨_,rfl⟩
     have HS0:=Lh hS0;clear hS0;have k0:=fun xw=>(WS.at HS0 xw).1
     have k1:=fun xw=>(WS.at HS0 xw).2.1
     have k2:=fun xw=>(WS.at HS0 xw).2.2.1
     have k3:=fun xw=>(WS.at HS0 xw).2.2.2.1
     have k4:=fun xw=>(WS.at HS0 xw).2.2.2.2.1
     have k5:=fun xw=>(WS.at HS0 xw).2.2.2.2.2.1
     have k6:=fun xw=>(WS.at HS0 xw).2.2.2.2.2.2.1
     have k7:=fun xw=>(WS.at HS0 xw).2.2.2.2.2.2.2.1
     have k8:=fun xw=>(WS.at HS0 xw).2.2.2.2.2.2.2.2
     refine Yz (S:=S0) [0,1,2,3,4,5,6,7,8,9,10,11,12,13,14,15,16,17,18,19,20,21] ZK ZK (fun _ _ _ _ _ h=>h) ?hS (fun hSc=>?_)
     case hS=>
      rw[HS0.out];exact⟨ZI,ZI,ZI,ZI,ZI,ZI,ZI,BL,ZJ⟩
     have hne0:Nonempty (WS S0):=⟨⟨_,hSc⟩⟩;simp only[List.map_cons,List.map_nil,Ld,Le]
     repeat
      first
      |((with_reducible refine YA ?_ ?_);exact rfl;go_big_quiet_step (fail);(try with_reducible refine wpQuiet_nil ?_);(try dsimp only))
      |((with_reducible refine YF ?_ ?_ (fun K hK=>?_))
        exact rfl;exact rfl;go_simp;(try go_wp2_with(first|(go_at_call 194;refine(hwd _).mono ?_;(rintro e w9 ⟨rfl,hb9⟩;obtain⟨hc9,hf9⟩:=Ya hb9;have hz9:=hb9.size;try simp at hz9;try have hy9:=Nl hz9;try have hx9:=Ns hy9;try have hw9:=Ns hx9))|(go_at_call 169;refine(Yce _).mono ?_;(rintro e w9 ⟨A9,c9,rfl,l9,k9,r9,hb9⟩;obtain⟨hc9,hf9⟩:=Ya hb9;have hz9:=hb9.size;try simp at hz9;try have hy9:=Nl hz9;try have hx9:=Ns hy9;try have hw9:=Ns hx9))|(go_at_call 191;refine(h2 _ (hW.trans ((k7 ⟨_,hSc⟩).mono hWs))).mono ?_;(rintro e w9 ⟨rfl,hb9⟩;obtain⟨hc9,hf9⟩:=Ya hb9;have hz9:=hb9.size;try simp at hz9;try have hy9:=Nl hz9;try have hx9:=Ns hy9;try have hw9:=Ns hx9))));refine hK.out _ _ ?hS (fun hSc=>?_)
        case hS=>
         first
         |exact hSc
         |(rw[HS0.out]at hSc ⊢;obtain⟨p0,p1,p2,p3,p4,p5,p6,p7,p8⟩:=hSc;exact⟨ZC0,ZC1,ZC2,ZC3,ZC4,ZC5,ZC6,ZL7,ZT8⟩)
        clear hK K)
     refine YB ?_;rw[HS0.out]at hSc;obtain⟨p0,p1,p2,p3,p4,p5,p6,p7,p8⟩:=hSc;clear hne0 HS0 k0 k1 k2 k3 k4 k5 k6 k7 k8;go_wp2;go_ret;exact⟨Yb (by rw[HF.out];simp[HD.out]),p7⟩
 · rw[hm]at HF hmk
   clear hm;cases hd:inB x.dst F.vars.length
   · rw[hd]at HF h1
     clear hd;go_enter Tryz.func164,Tryz.ntmps164;go_wp2_with(go_at_call 170;refine(hmk _).mono ?_;(rintro e w1 ⟨rfl,hb1⟩;obtain⟨hc1,hf1⟩:=Ya hb1;have hz1:=hb1.size;try simp at hz1;try have hy1:=Nl hz1;try have hx1:=Ns hy1;try have hw1:=Ns hx1));obtain⟨S0,hS0⟩:∃S0:World→Prop,S0=fun w'=>w'.cell? ⟨w.heap.size+1,0,none⟩=some (.int .i64 x.op)∧w'.cell? ⟨w.heap.size+1,2,none⟩=some (.slice A3 x.args.length c3)∧w'.cell? ⟨w.heap.size,0,none⟩=some (.slice A0 F.vars.length c0)∧w'.cell? ⟨w.heap.size,1,none⟩=some (.slice A1 F.params.length c1)∧w'.cell? ⟨w.heap.size,2,none⟩=some (.slice A2 F.blocks.length c2)∧w'.cell? ⟨w.heap.size+1,1,none⟩=some (.int .i64 x.dst)∧w'.cell? ⟨w.heap.size+1,3,none⟩=some (.int .i64 x.num)∧Below w.heap.size w w'∧w.heap.size+1<w'.heap.size:=⟨_,rfl⟩
     have HS0:=Lh hS0;clear hS0;have k0:=fun xw=>(WS.at HS0 xw).1
     have k1:=fun xw=>(WS.at HS0 xw).2.1
     have k2:=fun xw=>(WS.at HS0 xw).2.2.1
     have k3:=fun xw=>(WS.at HS0 xw).2.2.2.1
     have k4:=fun xw=>(WS.at HS0 xw).2.2.2.2.1
     have k5:=fun xw=>(WS.at HS0 xw).2.2.2.2.2.1
     have k6:=fun xw=>(WS.at HS0 xw).2.2.2.2.2.2.1
     have k7:=fun xw=>(WS.at HS0 xw).2.2.2.2.2.2.2.1
     have k8:=fun xw=>(WS.at HS0 xw).2.2.2.2.2.2.2.2
     refine Yz (S:=S0) [0,1,2,3,4,5,6,7,8,9,10,11,12,13,14,15,16,17,18,19,20,21] ZK ZK (fun _ _ _ _ _ h=>h) ?hS (fun hSc=>?_)
     case hS=>
      rw[HS0.out];exact⟨ZI,ZI,ZI,ZI,ZI,ZI,ZI,BL,ZJ⟩
     have hne0:Nonempty (WS S0):=⟨⟨_,hSc⟩⟩;simp only[List.map_cons,List.map_nil,Ld,Le]
     repeat
      first
      |((with_reducible refine YA ?_ ?_);exact rfl;go_big_quiet_step (fail);(try with_reducible refine wpQuiet_nil ?_);(try dsimp only))
      |((with_reducible refine YF ?_ ?_ (fun K hK=>?_))
        exact rfl;exact rfl;go_simp;(try go_wp2_with(first|(go_at_call 194;refine(hwd _).mono ?_;(rintro e w9 ⟨rfl,hb9⟩;obtain⟨hc9,hf9⟩:=Ya hb9;have hz9:=hb9.size;try simp at hz9;try have hy9:=Nl hz9;try have hx9:=Ns hy9;try have hw9:=Ns hx9))|(go_at_call 169;refine(Yce _).mono ?_;(rintro e w9 ⟨A9,c9,rfl,l9,k9,r9,hb9⟩;obtain⟨hc9,hf9⟩:=Ya hb9;have hz9:=hb9.size;try simp at hz9;try have hy9:=Nl hz9;try have hx9:=Ns hy9;try have hw9:=Ns hx9))|(go_at_call 191;refine(h2 _ (hW.trans ((k7 ⟨_,hSc⟩).mono hWs))).mono ?_;(rintro e w9 ⟨rfl,hb9⟩;obtain⟨hc9,hf9⟩:=Ya hb9;have hz9:=hb9.size;try simp at hz9;try have hy9:=Nl hz9;try have hx9:=Ns hy9;try have hw9:=Ns hx9))));refine hK.out _ _ ?hS (fun hSc=>?_)
        case hS=>
         first
         |exact hSc
         |(rw[HS0.out]at hSc ⊢;obtain⟨p0,p1,p2,p3,p4,p5,p6,p7,p8⟩:=hSc;exact⟨ZC0,ZC1,ZC2,ZC3,ZC4,ZC5,ZC6,ZL7,ZT8⟩)
        clear hK K)
     refine YB ?_;rw[HS0.out]at hSc;obtain⟨p0,p1,p2,p3,p4,p5,p6,p7,p8⟩:=hSc;clear hne0 HS0 k0 k1 k2 k3 k4 k5 k6 k7 k8;go_wp2_with(go_at_call 190;refine(h1 _).mono ?_;(rintro e w2 ⟨rfl,hb2⟩;obtain⟨hc2,hf2⟩:=Ya hb2;have hz2:=hb2.size;try simp at hz2;try have hy2:=Nl hz2;try have hx2:=Ns hy2;try have hw2:=Ns hx2));go_ret;exact⟨Yb (by rw[HF.out];simp),p7.trans (hb2.mono p7.size)⟩
   · rw[hd]at HF h1
     clear hd
     by_cases hn:x.num=0
     all_goals
      go_enter Tryz.func164,Tryz.ntmps164;go_wp2_with(go_at_call 170;refine(hmk _).mono ?_;(rintro e w1 ⟨rfl,hb1⟩;obtain⟨hc1,hf1⟩:=Ya hb1;have hz1:=hb1.size;try simp at hz1;try have hy1:=Nl hz1;try have hx1:=Ns hy1;try have hw1:=Ns hx1));obtain⟨S0,hS0⟩:∃S0:World→Prop,S0=fun w'=>w'.cell? ⟨w.heap.size+1,0,none⟩=some (.int .i64 x.op)∧w'.cell? ⟨w.heap.size+1,2,none⟩=some (.slice A3 x.args.length c3)∧w'.cell? ⟨w.heap.size,0,none⟩=some (.slice A0 F.vars.length c0)∧w'.cell? ⟨w.heap.size,1,none⟩=some (.slice A1 F.params.length c1)∧w'.cell? ⟨w.heap.size,2,none⟩=some (.slice A2 F.blocks.length c2)∧w'.cell? ⟨w.heap.size+1,1,none⟩=some (.int .i64 x.dst)∧w'.cell? ⟨w.heap.size+1,3,none⟩=some (.int .i64 x.num)∧Below w.heap.size w w'∧w.heap.size+1<w'.heap.size:=⟨_,rfl⟩
      have HS0:=Lh hS0;clear hS0;have k0:=fun xw=>(WS.at HS0 xw).1
      have k1:=fun xw=>(WS.at HS0 xw).2.1
      have k2:=fun xw=>(WS.at HS0 xw).2.2.1
      have k3:=fun xw=>(WS.at HS0 xw).2.2.2.1
      have k4:=fun xw=>(WS.at HS0 xw).2.2.2.2.1
      have k5:=fun xw=>(WS.at HS0 xw).2.2.2.2.2.1
      have k6:=fun xw=>(WS.at HS0 xw).2.2.2.2.2.2.1
      have k7:=fun xw=>(WS.at HS0 xw).2.2.2.2.2.2.2.1
      have k8:=fun xw=>(WS.at HS0 xw).2.2.2.2.2.2.2.2
      refine Yz (S:=S0) [0,1,2,3,4,5,6,7,8,9,10,11,12,13,14,15,16,17,18,19,20,21] ZK ZK (fun _ _ _ _ _ h=>h) ?hS (fun hSc=>?_)
      case hS=>
       rw[HS0.out];exact⟨ZI,ZI,ZI,ZI,ZI,ZI,ZI,BL,ZJ⟩
      have hne0:Nonempty (WS S0):=⟨⟨_,hSc⟩⟩;simp only[List.map_cons,List.map_nil,Ld,Le]
      repeat
       first
       |((with_reducible refine YA ?_ ?_);exact rfl;go_big_quiet_step (fail);(try with_reducible refine wpQuiet_nil ?_);(try dsimp only))
       |((with_reducible refine YF ?_ ?_ (fun K hK=>?_))
         exact rfl;exact rfl;go_simp;(try go_wp2_with(first|(go_at_call 194;refine(hwd _).mono ?_;(rintro e w9 ⟨rfl,hb9⟩;obtain⟨hc9,hf9⟩:=Ya hb9;have hz9:=hb9.size;try simp at hz9;try have hy9:=Nl hz9;try have hx9:=Ns hy9;try have hw9:=Ns hx9))|(go_at_call 169;refine(Yce _).mono ?_;(rintro e w9 ⟨A9,c9,rfl,l9,k9,r9,hb9⟩;obtain⟨hc9,hf9⟩:=Ya hb9;have hz9:=hb9.size;try simp at hz9;try have hy9:=Nl hz9;try have hx9:=Ns hy9;try have hw9:=Ns hx9))|(go_at_call 191;refine(h2 _ (hW.trans ((k7 ⟨_,hSc⟩).mono hWs))).mono ?_;(rintro e w9 ⟨rfl,hb9⟩;obtain⟨hc9,hf9⟩:=Ya hb9;have hz9:=hb9.size;try simp at hz9;try have hy9:=Nl hz9;try have hx9:=Ns hy9;try have hw9:=Ns hx9))));refine hK.out _ _ ?hS (fun hSc=>?_)
         case hS=>
          first
          |exact hSc
          |(rw[HS0.out]at hSc ⊢;obtain⟨p0,p1,p2,p3,p4,p5,p6,p7,p8⟩:=hSc;exact⟨ZC0,ZC1,ZC2,ZC3,ZC4,ZC5,ZC6,ZL7,ZT8⟩)
         clear hK K)
      refine YB ?_;rw[HS0.out]at hSc;obtain⟨p0,p1,p2,p3,p4,p5,p6,p7,p8⟩:=hSc;clear hne0 HS0 k0 k1 k2 k3 k4 k5 k6 k7 k8;have p9:=Ns p8;go_wp2_with(first|(go_at_call 190;refine(h1 _).mono ?_;(rintro e w2 ⟨rfl,hb2⟩;obtain⟨hc2,hf2⟩:=Ya hb2;have hz2:=hb2.size;try simp at hz2;try have hy2:=Nl hz2;try have hx2:=Ns hy2;try have hw2:=Ns hx2))|(go_at_call 195;refine(hnb _).mono ?_;rintro e w1 ⟨rfl,rfl⟩));go_ret;exact⟨Yb (by rw[HF.out];simp[hn]),p7.trans (hb2.mono p7.size)⟩
end Go.Proofs.YtjlclkcmfokobaaGreatDoor
