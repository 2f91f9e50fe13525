/- The walk of the document's quiet, Window: may a check come ahead of an instruction? -/
import Derived.Test.YtjlclkcmfokobaaGreatDoorMgPZ
import Derived.Test.YtjlclkcmfokobaaGreatDoorMemTZ
import Derived.Test.YtjlclkcmfokobaaGreatDoorMonLZ
import Derived.Test.YtjlclkcmfokobaaGreatDoorSlQZ
import Derived.BigQuiet
import Derived.Shelf.Spec.SlicesInsert
import Derived.Deep.RegionLaw
namespace Go.Proofs.YtjlclkcmfokobaaGreatDoor
open Go.RowKit
set_option maxRecDepth 100000
def Ybs(o:Nat):Bool:=!([17,15,19,20,21,22,23,24].contains o)
theorem YlS:∀o,o<27→(Ya9 o||decide (o=14)||decide (o=18))=Ybs o:=by decide +kernel
theorem Yhu{x:PInst}{o:Nat}(h:x.op=(o:Int)):isQ x=Ybs o:=by
 unfold isQ Ybs;rw[h,Bool.eq_iff_iff];simp;omega
theorem YlT(i:Nat)(hi:i<27){sW:ByteArray}(h:sW=bs (kindAt i).1):(sW.toList==[111,117,116])=decide (i=17)∧(sW.toList==[110,101,119])=decide (i=15)∧(sW.toList==[99,104,107,110,105,108])=decide (i=19)∧(sW.toList==[99,104,107,100,105,118])=decide (i=20)∧(sW.toList==[99,104,107,97,100,100])=decide (i=21)∧(sW.toList==[99,104,107,115,117,98])=decide (i=22)∧(sW.toList==[99,104,107,109,117,108])=decide (i=23)∧(sW.toList==[99,104,107,108,101,110])=decide (i=24):=by
 rw[h];exact⟨Yad i hi 17 ZD,Yad i hi 15 ZD,Yad i hi 19 ZD,Yad i hi 20 ZD,Yad i hi 21 ZD,Yad i hi 22 ZD,Yad i hi 23 ZD,Yad i hi 24 ZD⟩
set_option maxHeartbeats 8000000 in
theorem YlU{w:World}(o:Nat)(dst num:Int)(A5:Option Addr)(n5 c5:Nat)(ho:o<27) :
 Calls Tryz.prog 46 #[.agg #[.int .i64 (o:Int),.int .i64 dst,.slice A5 n5 c5,.int .i64 num]] w fun e w'=>e=.returned (.bool (Ybs o))∧Below w.heap.size w w':=by
 obtain⟨sW,hsW⟩:∃sW,sW=bs (kindAt o).1:=⟨_,rfl⟩;have HSW:=Lh hsW;have HW:=Lh (YlT o ho hsW);clear hsW;cases hs:Ybs o
 · unfold Ybs at hs
   rw[Bool.not_eq_false',List.contains_iff_mem]at hs;simp only[List.mem_cons,List.not_mem_nil,or_false]at hs;rcases hs with h|h|h|h|h|h|h|h
   all_goals
    as_aux_lemma=>
    obtain⟨e17,e15,e19,e20,e21,e22,e23,e24⟩:=HW.out;simp(decide:=true) only[h,decide_true,decide_false,Nat.reduceEqDiff]at e17 e15 e19 e20 e21 e22 e23 e24;have hoI:(o:Int)<27:=by omega
    clear h HW;go_enter Tryz.func46,Tryz.ntmps46
    go_upto_region 1 with fail
    obtain⟨S0,hS0⟩:∃S0:World→Prop,S0=fun w'=>w'.cell? ⟨w.heap.size,0,none⟩=some (.int .i64 (o:Int))∧Below (w.heap.size+1) (w.alloc (.cells #[.int .i64 (o:Int),.int .i64 dst,.slice A5 n5 c5,.int .i64 num] 44)) w'∧w.heap.size<w'.heap.size:=⟨_,rfl⟩
    have HS0:=Lh hS0;clear hS0;have k0:=fun xw=>(WS.at HS0 xw).1
    have k1:=fun xw=>(WS.at HS0 xw).2.1
    have k2:=fun xw=>(WS.at HS0 xw).2.2
    refine Yg8 (S:=S0) [(1,false),(2,false),(0,true),(3,false),(4,false),(5,true)] ZK ZK (fun _ _ _ _ _ h=>h) ?hS (fun hSc=>?_)
    case hS=>
     rw[HS0.out];exact⟨ZI,BL,ZJ⟩
    have hne0:Nonempty (WS S0):=⟨⟨_,hSc⟩⟩;simp only[List.map_cons,List.map_nil,Ld,Le]
    repeat
     first
     |((with_reducible refine Yg9 ?_ ?_);exact rfl;dsimp only;go_big_quiet_step (fail);(try with_reducible refine wpQuiet_nil ?_);(try dsimp only))
     |((with_reducible refine Yha ?_ ?_ (fun K hK=>?_))
       exact rfl;exact rfl;dsimp only;go_simp;(try go_wp2_with(go_at_call 87;refine Ybq.mono ?_;rintro e w9 ⟨rfl,hR9,hl9,hb9⟩;have hw9:=(hR9 o ho).1;rw[← HSW.out]at hw9;obtain⟨hc9,hf9⟩:=Ya hb9;have hz9:=hb9.size;(try simp at hz9);(try simp at hl9);(try simp only[heap_drew,World.size_alloc]at hw9)));refine hK.out _ _ ?hS (fun hSc=>?_)
       case hS=>
        first
        |exact hSc
        |(rw[HS0.out]at hSc ⊢;obtain⟨p0,p1,p2⟩:=hSc;exact⟨ZC0,ZL1,ZT2⟩)
        |(rw[HS0.out]at hSc ⊢;obtain⟨p0,p1,p2⟩:=hSc;exact⟨ZC,BL,ZT⟩)
       clear hK K)
    refine Yhb ?_;rw[HS0.out]at hSc;obtain⟨p0,p1,p2⟩:=hSc;clear hne0 HS0 k0 k1 k2;go_wp2;go_ret;exact⟨rfl,BL⟩
 · simp[Ybs]at hs
   obtain⟨n17,n15,n19,n20,n21,n22,n23,n24⟩:=hs;obtain⟨e17,e15,e19,e20,e21,e22,e23,e24⟩:=HW.out;simp only[n17,n15,n19,n20,n21,n22,n23,n24,decide_false]at e17 e15 e19 e20 e21 e22 e23 e24;have hoI:(o:Int)<27:=by omega
   clear n17 n15 n19 n20 n21 n22 n23 n24 HW;go_enter Tryz.func46,Tryz.ntmps46
   go_upto_region 1 with fail
   obtain⟨S0,hS0⟩:∃S0:World→Prop,S0=fun w'=>w'.cell? ⟨w.heap.size,0,none⟩=some (.int .i64 (o:Int))∧Below (w.heap.size+1) (w.alloc (.cells #[.int .i64 (o:Int),.int .i64 dst,.slice A5 n5 c5,.int .i64 num] 44)) w'∧w.heap.size<w'.heap.size:=⟨_,rfl⟩
   have HS0:=Lh hS0;clear hS0;have k0:=fun xw=>(WS.at HS0 xw).1
   have k1:=fun xw=>(WS.at HS0 xw).2.1
   have k2:=fun xw=>(WS.at HS0 xw).2.2
   refine Yg8 (S:=S0) [(1,false),(2,false),(0,true),(3,false),(4,false),(5,true)] ZK ZK (fun _ _ _ _ _ h=>h) ?hS (fun hSc=>?_)
   case hS=>
    rw[HS0.out];exact⟨ZI,BL,ZJ⟩
   have hne0:Nonempty (WS S0):=⟨⟨_,hSc⟩⟩;simp only[List.map_cons,List.map_nil,Ld,Le]
   repeat
    first
    |((with_reducible refine Yg9 ?_ ?_);exact rfl;dsimp only;go_big_quiet_step (fail);(try with_reducible refine wpQuiet_nil ?_);(try dsimp only))
    |((with_reducible refine Yha ?_ ?_ (fun K hK=>?_))
      exact rfl;exact rfl;dsimp only;go_simp;(try go_wp2_with(go_at_call 87;refine Ybq.mono ?_;rintro e w9 ⟨rfl,hR9,hl9,hb9⟩;have hw9:=(hR9 o ho).1;rw[← HSW.out]at hw9;obtain⟨hc9,hf9⟩:=Ya hb9;have hz9:=hb9.size;(try simp at hz9);(try simp at hl9);(try simp only[heap_drew,World.size_alloc]at hw9)));refine hK.out _ _ ?hS (fun hSc=>?_)
      case hS=>
       first
       |exact hSc
       |(rw[HS0.out]at hSc ⊢;obtain⟨p0,p1,p2⟩:=hSc;exact⟨ZC0,ZL1,ZT2⟩)
       |(rw[HS0.out]at hSc ⊢;obtain⟨p0,p1,p2⟩:=hSc;exact⟨ZC,BL,ZT⟩)
      clear hK K)
   refine Yhb ?_;rw[HS0.out]at hSc;obtain⟨p0,p1,p2⟩:=hSc;clear hne0 HS0 k0 k1 k2;go_wp2;go_ret;exact⟨rfl,BL⟩
theorem Yom{w:World}(o:Nat)(ho:o<27):Calls Tryz.prog 74 #[.int .i64 (o:Int)] w fun e w'=>e=.returned (.bool (Ybs o))∧w'=w:=by
 have hp:=YlQ (w:=w) o ho;have hq:=YlS o ho;clear ho;cases hc:Ya9 o
 · rw[hc]at hp hq
   clear hc
   by_cases h1:o=14
   · subst h1
     have HQ:=Lh hq;clear hq;go_enter Tryz.func74,Tryz.ntmps74;go_wp2_with(go_at_call 110;refine hp.mono ?_;rintro e w1 ⟨rfl,rfl⟩);go_ret;exact⟨Yb (by simpa using HQ.out),rfl⟩
   · have d1:((o:Int)==14)=false:=by simp;omega
     by_cases h2:o=18
     · subst h2
       have HQ:=Lh hq;clear hq h1;go_enter Tryz.func74,Tryz.ntmps74;go_wp2_with(go_at_call 110;refine hp.mono ?_;rintro e w1 ⟨rfl,rfl⟩);go_ret;exact⟨Yb (by simpa using HQ.out),rfl⟩
     · have d2:((o:Int)==18)=false:=by simp;omega
       have HQ:=Lh (show Ybs o=false by rw[← hq];simp[h1,h2]);clear hq h1 h2;go_enter Tryz.func74,Tryz.ntmps74;go_wp2_with(go_at_call 110;refine hp.mono ?_;rintro e w1 ⟨rfl,rfl⟩);go_ret;exact⟨Yb HQ.out.symm,rfl⟩
 · rw[hc]at hp hq
   have HQ:=Lh hq;clear hc hq;go_enter Tryz.func74,Tryz.ntmps74;go_wp2_with(go_at_call 110;refine hp.mono ?_;rintro e w1 ⟨rfl,rfl⟩);go_ret;exact⟨Yb (by simpa using HQ.out),rfl⟩
theorem Yon:∀args w,(callFunc 73 args).run Tryz.prog w=.ok (.enter 73 args) w:=fun _ _=>by kernel_rfl
theorem Yoo{w:World}{o n c:Nat}{d num:Int}{A:Option Addr}(ho:o<27):Calls Tryz.prog 73 #[.agg #[.int .i64 o,.int .i64 d,.slice A n c,.int .i64 num]] w fun e w'=>e=.returned (.bool (!Ybs o))∧Below w.heap.size w w':=by
 have hq:=fun w=>Yom (w:=w) o ho
 generalize Ybs o=q at *;clear ho;go_enter Tryz.func73,Tryz.ntmps73;go_wp2_with(go_at_call 74;refine(hq _).mono ?_;rintro e w9 ⟨rfl,rfl⟩);go_ret;exact⟨rfl,BL⟩
def Yby(xs:List PInst)(at_:Int):Int:=if at_<0∨(xs.length:Int)≤at_ then 0 else Yl (xs.drop (at_.toNat+1))
theorem YiR:∀(l:List PInst) (i:Nat),(Yg (fun x=>!isQ x) l i=-1∧Yl l=l.length)∨Yg (fun x=>!isQ x) l i=((i+Yl l:Nat):Int)
 |[],i=>.inl ⟨rfl,rfl⟩
 |x::r,i=>by
  unfold Yg Yl;cases h:isQ x
  · exact .inr (by simp[h])
  · rcases YiR r (i+1)with⟨h1,h2⟩|h1
    · refine .inl ⟨by simpa[h]using h1,?_⟩
      unfold Yl at h2;simp[h,h2]
    · refine .inr ?_
      rw[if_neg ZS,h1];simp[Yl,h];omega
set_option maxHeartbeats 2000000 in
theorem YiS{W w:World}{A:Option Addr}{c:Nat}{xs:List PInst}{nm:ByteArray}{vp:Value}{k3 k4 k5 k6:Int}(hr:Rd W.heap.size A xs 4 (InstC W W.heap.size))(hl:xs.length≤1048576)(hc:xs.length≤c)(hops:∀x∈xs,0≤x.op∧x.op<27)(hW:Below W.heap.size W w)(at_:Int) :
 Calls Tryz.prog 36 #[.agg #[.string nm,vp,.slice A xs.length c,.int .i64 k3,.int .i64 k4,.int .i64 k5,.int .i64 k6],.int .i64 at_] w fun e w'=>e=.returned (.int .i64 (Yby xs at_))∧Below w.heap.size w w':=by
 have hWs:=hW.size
 by_cases h0:at_<0
 · have HV:=Lh (show Yby xs at_=0 by simp[Yby,h0])
   have hd:decide (at_<0)=true:=decide_eq_true h0;clear h0 hr hops;go_enter Tryz.func36,Tryz.ntmps36;go_wp2;go_ret;exact⟨Yt HV.out.symm,BL⟩
 · have hd:decide (at_<0)=false:=decide_eq_false h0
   by_cases h1:(xs.length:Int)≤at_
   · have HV:=Lh (show Yby xs at_=0 by simp[Yby,h1])
     have hd1:decide ((xs.length:Int)≤at_)=true:=decide_eq_true h1;clear h0 h1 hr hops;go_enter Tryz.func36,Tryz.ntmps36;go_wp2;go_ret;exact⟨Yt HV.out.symm,BL⟩
   · have hd1:decide ((xs.length:Int)≤at_)=false:=decide_eq_false h1
     obtain⟨k,rfl⟩:=Int.eq_ofNat_of_zero_le (by omega:0≤at_);have hk:k<xs.length:=by omega
     have HV:=Lh (show Yby xs (k:Int)=(Yl (xs.drop (k+1)):Int) by unfold Yby;rw[if_neg ZO,Int.toNat_natCast]);obtain⟨g,off,rfl,hg,-⟩:=hr k _ (List.getElem?_eq_getElem hk);obtain⟨B,hB⟩:∃B:Option Addr,B=if c=k+1 then some ⟨g,off,none⟩ else some ⟨g,off+(k+1)*4,none⟩:=⟨_,rfl⟩
     have hrB:Rd W.heap.size B (xs.drop (k+1)) 4 (InstC W W.heap.size):=fun i x hx=>by
      rw[List.getElem?_drop]at hx;have:=(List.getElem?_eq_some_iff.1 hx).1;obtain⟨g',off',e,hg',hi⟩:=hr _ x hx;cases e;rw[hB,if_neg ZO];exact⟨_,_,rfl,hg',by rw[show off+(k+1)*4+i*4=off+(k+1+i)*4 from ZO];exact hi⟩
     have hfi:=fun(w':World) (h:Below W.heap.size W w')=>YiO (b:=⟨.empty,[],xs.drop (k+1),default⟩) (c0:=c-(k+1)) hrB (by simp only[List.length_drop,Len];omega) h 73 (fun x=>!isQ x) Yon (fun x hx pv hpv w1 _=>by
      obtain⟨o0,o1⟩:=hops x (List.mem_of_mem_drop hx);obtain⟨A1,c1,rfl,-⟩:=hpv.open_;obtain⟨o,ho⟩:=Int.eq_ofNat_of_zero_le o0;have hq:=Yoo (w:=w1) (o:=o) (n:=x.args.length) (c:=c1) (d:=x.dst) (num:=x.num) (A:=A1) ZO;rw[← Yhu ho,← ho]at hq
      exact hq)
     simp only[List.length_drop]at hfi;have hwl:=YcT (l:=xs.drop (k+1));rw[List.length_drop]at hwl;have hwf:=YiR (xs.drop (k+1)) 0;rw[List.length_drop]at hwf;generalize Yg (fun x=>!isQ x) (xs.drop (k+1)) 0=fi at *;generalize Yl (xs.drop (k+1))=wl at *;generalize hxl:xs.length=n at *;clear hr hops h0 h1 hrB hxl;have hki:(k:Int)<(n:Int):=by omega
     rcases hwf with⟨rfl,hwl2⟩|hfe
     · have HV2:=Lh (show Yby xs (k:Int)=((n-(k+1):Nat):Int) by rw[HV.out,hwl2])
       clear HV hwl hwl2
       by_cases hck:c=k+1
       · as_aux_lemma=>
         rw[if_pos hck]at hB;subst hB;subst hck;obtain rfl:n=k+1:=by omega
         simp only[Nat.sub_self]at hfi;go_enter Tryz.func36,Tryz.ntmps36;go_wp2_with(go_at_call 72;refine(hfi _ BL).mono ?_;rintro e w9 ⟨rfl,hb9⟩);go_ret;exact⟨Yt (by have:=HV2.out;simp at this ⊢;exact this.symm),BL⟩
       · as_aux_lemma=>
         rw[if_neg hck]at hB;subst hB;go_enter Tryz.func36,Tryz.ntmps36;go_wp2_with(go_at_call 72;refine(hfi _ BL).mono ?_;rintro e w9 ⟨rfl,hb9⟩);go_ret;exact⟨Yt HV2.out.symm,BL⟩
     · rw[Nat.zero_add]at hfe
       subst hfe;have hwz:decide ((wl:Int)<0)=false:=decide_eq_false ZO
       by_cases hck:c=k+1
       · as_aux_lemma=>
         rw[if_pos hck]at hB;subst hB;subst hck;obtain rfl:n=k+1:=by omega
         simp only[Nat.sub_self]at hfi;go_enter Tryz.func36,Tryz.ntmps36;go_wp2_with(go_at_call 72;refine(hfi _ BL).mono ?_;rintro e w9 ⟨rfl,hb9⟩);go_ret;exact⟨Yt HV.out.symm,BL⟩
       · as_aux_lemma=>
         rw[if_neg hck]at hB;subst hB;go_enter Tryz.func36,Tryz.ntmps36;go_wp2_with(go_at_call 72;refine(hfi _ BL).mono ?_;rintro e w9 ⟨rfl,hb9⟩);go_ret;exact⟨Yt HV.out.symm,BL⟩
theorem Yop{o:Oper}{a:Act}{w:World}{K:Act→World→Prop}{Q:Exit→Act→World→Prop}(m x:Operand)(t:TypeId)(c:Bool)(hop:o.op=Op.lookup t m x c){b:Nat}
 {key r:Value} (hm:a.eval m=.map (some b)) (hx:a.eval x=key) (hrun:(Instr.lookup t (.map (some b)) key c).run Tryz.prog w=.ok r w) (h:K (a.put o.dst r) w):o.wp Tryz.prog a w K Q:=by
 unfold Oper.wp;simp[execOp,hop,hm,hx,hrun,Result.andThen];exact h
theorem Yoq{w:World}{gw gm n c bb off:Nat}{x:PInst}{k:Int→Option Int}{v m:Int}{B:Bool}(x3:w.cell? ⟨gw,3,none⟩=some (.map (some gm)))(xl:gw<w.heap.size)(hm:KM w gm n k)(hbb:bb<w.heap.size)(hv:w.cell? ⟨bb,off+1,none⟩=some (.int .i64 v))(hwf:(Lit.int .i64 v).wf=true)(_hc:2≤c)(hx:x.op=18)(hB:(k v).isSome=B)(hmv:(k v).getD 0=m){R:Bool}(hRR:R=(B&&decide (0≤m))) :
 Calls Tryz.prog 80 #[.pointer (some ⟨gw,0,none⟩),.agg #[.int .i64 x.op,.int .i64 x.dst,.slice (some ⟨bb,off,none⟩) 2 c,.int .i64 x.num]] w fun e w'=>e=.returned (.tuple #[.int .i64 m,.bool R])∧Below w.heap.size w w':=by
 obtain⟨wX,hwX⟩:∃wX:World,wX=w.alloc (.cells #[.int .i64 18,.int .i64 x.dst,.slice (some ⟨bb,off,none⟩) 2 c,.int .i64 x.num] 44):=⟨_,rfl⟩;have hbX:Below w.heap.size w wX:=by rw[hwX];exact YO _ _
 have bX:BoxAt wX w.heap.size #[.int .i64 18,.int .i64 x.dst,.slice (some ⟨bb,off,none⟩) 2 c,.int .i64 x.num] 44:=by rw[hwX];exact BoxAt.new _ _ _
 have pX:=bX.cell 2;have pl:=bX.lt;simp at pX;have y3:=(hbX.cell (p:=⟨gw,3,none⟩) xl).trans x3;have yv:=(hbX.cell (p:=⟨bb,off+1,none⟩) hbb).trans hv;have yl:=Nt xl hbX.size;have yb:=Nt hbb hbX.size;have hmX:=hm.turn (hbX.block gm hm.lt);have hml:=hmX.lt;have HLK:=Lh (fun(w':World) (h:w'.heap[gm]?=wX.heap[gm]?)=>(hmX.turn h).look hwf);rw[hB,hmv]at HLK;have HBX:=Lh hbX;have HRR:=Lh hRR;have x0:=bX.cell 0;simp at x0;rw[hx];clear hm hmX hB hmv hwf hx x3 hv hbX bX xl hbb hRR;go_enter Tryz.func80,Tryz.ntmps80
 go_upto_region 1 with fail
 go_loud (rw[← hwX])
 clear hwX
 go_upto_region 3 with fail
 obtain⟨S0,hS0⟩:∃S0:World→Prop,S0=fun w'=>Below wX.heap.size wX w'∧w'.cell? ⟨gw,3,none⟩=some (.map (some gm))∧w'.cell? ⟨w.heap.size,2,none⟩=some (.slice (some ⟨bb,off,none⟩) 2 c)∧w'.cell? ⟨bb,off+1,none⟩=some (.int .i64 v)∧gw<w'.heap.size∧w.heap.size<w'.heap.size∧bb<w'.heap.size:=⟨_,rfl⟩
 have HS0:=Lh hS0;clear hS0;have k0:=fun xw=>(WS.at HS0 xw).1
 have k1:=fun xw=>(WS.at HS0 xw).2.1
 have k2:=fun xw=>(WS.at HS0 xw).2.2.1
 have k3:=fun xw=>(WS.at HS0 xw).2.2.2.1
 have k4:=fun xw=>(WS.at HS0 xw).2.2.2.2.1
 have k5:=fun xw=>(WS.at HS0 xw).2.2.2.2.2.1
 have k6:=fun xw=>(WS.at HS0 xw).2.2.2.2.2.2
 refine Yz (S:=S0) [0,1,2,3,4,5,6,7,8,9,10,11,12,13] ZK ZK (fun _ _ _ _ _ h=>h) ?hS (fun hSc=>?_)
 case hS=>
  rw[HS0.out];exact⟨BL,ZI,ZI,ZI,ZJ,ZJ,ZJ⟩
 have hne0:Nonempty (WS S0):=⟨⟨_,hSc⟩⟩;simp only[List.map_cons,List.map_nil,Ld,Le]
 repeat
  first
  |((with_reducible refine YA ?_ ?_);exact rfl;go_big_quiet_step (fail);(try with_reducible refine wpQuiet_nil ?_);(try dsimp only))
  |((with_reducible refine YF ?_ ?_ (fun K hK=>?_))
    exact rfl;exact rfl
    first
    |((have hs9:=hSc;rw[HS0.out]at hs9;obtain⟨hs8,-⟩:=hs9;refine Yop _ _ 79 true rfl rfl rfl (HLK.out _ (hs8.block gm hml)) ?_;simp only[Act.put,La,Lz,Lc]))
    |(go_simp)
    refine hK.out _ _ ?hS (fun hSc=>?_)
    case hS=>
     first
     |exact hSc
     |(rw[HS0.out]at hSc ⊢;obtain⟨p0,p1,p2,p3,p4,p5,p6⟩:=hSc;exact⟨BL,ZC,ZC,ZC,ZT,ZT,ZT⟩)
    clear hK K)
 refine YB ?_;rw[HS0.out]at hSc;obtain⟨p0,p1,p2,p3,p4,p5,p6⟩:=hSc;clear hne0 HS0 k0 k1 k2 k3 k4 k5 k6;have HB1:=Lh (HBX.out.trans (p0.mono HBX.out.size));clear p0 p1 p2 p3 p4 p5 p6 x0 pX pl y3 yv yl yb hml HLK HBX;cases B
 · as_aux_lemma=>
   go_wp2;exact bodyPost_ret (v:=.tuple #[.int .i64 m,.bool false]) (by simp[results,Tryz.results80,go_sem]) rfl ⟨by rw[HRR.out];rfl,HB1.out⟩
 · as_aux_lemma=>
   obtain⟨q,hq⟩:∃q,decide (0≤m)=q:=⟨_,rfl⟩;have hq2:decide (m≥0)=q:=hq;have HQ:=Lh (show R=q by rw[HRR.out,hq,Bool.true_and]);clear hq HRR;go_wp2;exact bodyPost_ret (v:=.tuple #[.int .i64 m,.bool q]) (by simp[results,Tryz.results80,go_sem]) rfl ⟨by rw[HQ.out],HB1.out⟩
theorem Yor{w:World}{gw gm n c:Nat}{b0 b1 b2:Value}{A:Option Addr}{x:PInst}{k:Int→Option Int}(hb:BoxAt w gw #[b0,b1,b2,.map (some gm)] 81)(hm:KM w gm n k)(hr:Rd w.heap.size A x.args 1 (Yk w))(hs:x.op=18→x.args.length=2∧(Lit.int .i64 (ith x.args 1)).wf=true∧2≤c) :
 Calls Tryz.prog 80 #[.pointer (some ⟨gw,0,none⟩),.agg #[.int .i64 x.op,.int .i64 x.dst,.slice A x.args.length c,.int .i64 x.num]] w fun e w'=>(∃m,e=.returned (.tuple #[.int .i64 m,.bool (fixP k x).isSome])∧∀y,fixP k x=some y→m=y)∧Below w.heap.size w w':=by
 by_cases h1:x.op=18
 · obtain⟨hl,hwf,hc⟩:=hs h1
   obtain⟨bb,off,rfl,hbb,hv⟩:=hr 1 (ith x.args 1) (Ybz ZO);have x3:=hb.cell 3;simp at x3;have hg:=Yoq (x:=x) x3 hb.lt hm hbb hv hwf hc h1 rfl rfl rfl;rw[hl];refine hg.mono ?_;rintro e w' ⟨rfl,hb'⟩;refine⟨⟨(k (ith x.args 1)).getD 0,?_,?_⟩,hb'⟩
   · have:(fixP k x).isSome=((k (ith x.args 1)).isSome&&decide (0≤(k (ith x.args 1)).getD 0)):=by
      rw[fixP,if_pos h1];cases k (ith x.args 1) with
      |none=>rfl
      |some m=>by_cases hm:0≤m<;>simp[hm]
     rw[this]
   · intro y hy
     rw[fixP,if_pos h1]at hy;cases hk:k (ith x.args 1) with
     |none=>rw[hk]at hy;cases hy
     |some m=>
      rw[hk]at hy
      by_cases hm:0≤m
      · simp[hm]at hy
        simpa using hy
      · simp[hm]at hy
 · have hd:(x.op !=18)=true:=by simpa using h1
   have HF:=Lh (show fixP k x=none by rw[fixP,if_neg h1]);generalize fixP k x=fx at *;clear hs hr hm h1;go_enter Tryz.func80,Tryz.ntmps80;go_wp2;refine bodyPost_ret (v:=.tuple #[.int .i64 0,.bool false]) (by simp[results,Tryz.results80,go_sem]) rfl ⟨⟨0,by rw[HF.out];rfl,fun y h=>by rw[HF.out]at h;cases h⟩,BL⟩
theorem YiT{w:World}{g:Nat}{cs:Array Value}{t:TypeId}(h:BoxAt w g cs t):w.shape? g=some (t,cs.size):=by
 unfold BoxAt at h;simp[World.shape?,h]
theorem Yos:(Tryz.prog.funcs[116]?).map (fun fn=>(fn.name== "runtime.NumGoroutine",fn.body.isNone,Extern.findNext fn,Extern.find fn))=some (false,true,none,some (Extern.SlicesOverlaps.overlaps #[35,35] #[4])):=by kernel_rfl
def YcM:Value:=.agg #[.int .i64 0,.int .i64 0,.slice none 0 0,.int .i64 0]
theorem Yot(w:World):(zeroValue 44).run Tryz.prog w=.ok YcM w:=by kernel_rfl
set_option maxHeartbeats 4000000 in
theorem You{w:World}{base g c i:Nat}{xs:List PInst}(h:IRow w base (.slice (some ⟨g,0,none⟩) xs.length c) xs)(hi:i<xs.length)(hn:xs.length≤1048576) :
 Calls Tryz.prog 83 #[.slice (some ⟨g,0,none⟩) xs.length c,.int .i64 i,.int .i64 ((i:Int)+1)] w fun e w'=>e=.returned (.slice (some ⟨g,0,none⟩) (xs.length-1) c)∧IRow w' base (.slice (some ⟨g,0,none⟩) (xs.length-1) c) (xs.take i++xs.drop (i+1))∧Kp (fun b=>b≠g) w w':=by
 rcases h with⟨h,-⟩|⟨g0,c0,cur,ch,hv,hb,hh,k1,k2,k3,k4,k5⟩
 · cases h
 · simp only[Value.slice.injEq,Option.some.injEq,Addr.mk.injEq,and_true,true_and]at hv
   obtain⟨rfl,rfl⟩:=hv;obtain⟨i0,hi0,hz0,hz1,-⟩:=info_parts Tryz.info44;have hd:=(k4.drop (i+1)).flat;rw[List.length_drop]at hd;have hcm:c≤9223372036854775807:=by unfold maxLen at k2;omega
   obtain⟨news,hnews⟩:∃news,news=(ch.drop (i+1)).flatten:=⟨_,rfl⟩;rw[← hnews]at hd;obtain⟨A,hA,hsrc⟩:∃A:Addr,(if c=i+1 then some (⟨g,0,none⟩:Addr) else some ⟨g,(i+1)*4,none⟩)=some A∧Hid (∀t u,news[t]?=some u→w.drew.cell? (A.add t)=some u):=by
    by_cases e:c=i+1
    · refine⟨⟨g,0,none⟩,by simp[e],fun t u hu=>?_⟩
      have:=(List.getElem?_eq_some_iff.1 hu).1;omega
    · refine⟨⟨g,(i+1)*4,none⟩,by simp[e],fun t u hu=>?_⟩
      have hlt:=(List.getElem?_eq_some_iff.1 hu).1;rw[Addr.add_lit];show w.cell? _=_;rw[hh.cell,← Array.getElem?_toList];rw[hnews,← Yic k4.all,List.getElem?_drop,← k5,List.getElem?_take,if_pos ZO]at hu;exact hu
   have s1:Hid (news.length=(xs.length-(i+1))*4):=hd;have s2:Hid (∀u∈news,u.oneCell'=true):=by
    rw[Hid,hnews];exact(k4.drop (i+1)).ones
   have s3:Hid (∀t,t<news.length→(w.drew.cell? ⟨g,0+i*4+t,none⟩).isSome=true∧w.drew.frozen? ⟨g,0+i*4+t,none⟩=false):=fun t ht=>by
    refine⟨?_,hh.frozen _⟩;show(w.cell? _).isSome=true;rw[hh.cell];simp;omega
   obtain⟨W1,hW1⟩:∃W1,W1=w.drew.setCells g (0+i*4) news:=⟨_,rfl⟩;obtain⟨cs1,b1,z1,-⟩:=YcH news (w:=w.drew) (o:=0+i*4) hh.drew ZO;rw[← hW1]at b1;have hcl:∀ty,(Builtin.clear_ #[35] ty #[.slice (some ⟨g,(i+(xs.length-(i+1)))*4,none⟩) (xs.length-(i+(xs.length-(i+1)))) (c-(i+(xs.length-(i+1))))]).run Tryz.prog W1=.ok (.tuple #[]) (W1.setCells g ((i+(xs.length-(i+1)))*4) (Builtin.zeroCells YcM.cells (xs.length-(i+(xs.length-(i+1))))).toList):=fun ty=>
    Ym6 (P:=Tryz.prog) W1 35 44 ty YcM Tryz.underlying35 Yot ZD g ((i+(xs.length-(i+1)))*4) _ _ ZO (fun j hj=>by
     have:YcM.cells.size=4:=rfl;rw[this]at hj;rw[b1.cell];simp
     omega) (fun j _=>b1.frozen _)
   have HX:=Lh (fun(Z:List Value) (hZ:Z.length=4)=>IRow.del (w:=w.drew) (Z:=Z) hb hh.drew k1 k2 k3 (k4.kt (ts:=[3]) KT.refl.drew ZS) k5 hi hZ);have HN:=Lh hnews;have HW:=Lh hW1;have HL:=Lh hh.lt;have hic:i≤c:=by omega
   have hjc:i+1≤c:=by omega
   have hgl:=hh.lt;have mixed:Tryz.prog.follows .mixedOrders=true:=by kernel_rfl
   have hi0':(0:Int)≤(i:Int)+1:=by omega
   have hi1:(i:Int)+1≤(xs.length:Int):=by omega
   have HZ:=Lh (show(Builtin.zeroCells YcM.cells (xs.length-(i+(xs.length-(i+1))))).toList.length=4 by
    rw[Array.length_toList,size_zeroCells,show YcM.cells.size=4 from rfl]
    omega)
   generalize (Builtin.zeroCells YcM.cells (xs.length-(i+(xs.length-(i+1))))).toList=Z at *;clear hnews hW1 hd hh k2 k3 k4 k5 b1 z1 hz0;go_enter Tryz.func83,Tryz.ntmps83;go_wp2_with fail
   go_region_law_o (refine step_append_room rfl (.tmp 22) (.tmp 25) 35 rfl 44 i0 4 Tryz.underlying35 hi0 hz1 g 0 i c (by simp[Act.eval,Act.put]) A (xs.length-(i+1)) (c-(i+1)) news (by simp[Act.eval,Act.put]) s1.out hsrc.out s2.out ZO s3.out ?_;rw[← HW.out])
   go_wp2_with(simp only[hcl]);go_ret;have e1:i+(xs.length-(i+1))=xs.length-1:=by omega
   rw[e1,HW.out,Nat.zero_add,HN.out];exact⟨rfl,HX.out Z HZ.out,Kp.setCells (fun h=>h rfl) _ (Kp.setCells (fun h=>h rfl) _ Kp.refl.drew)⟩
set_option maxHeartbeats 4000000 in
theorem Yov{w:World}{base g c i vb:Nat}{xs:List PInst}{cs:List Value}{m:PInst}(h:IRow w base (.slice (some ⟨g,0,none⟩) xs.length c) xs)(hi:i<xs.length)(hc:xs.length+1≤c)(hn:xs.length<1048576)(hbx:BoxAt w vb cs.toArray 44)(hl:cs.length=4)(hm:CIn w cs m)(hvb:vb≠g) :
 Calls Tryz.prog 82 #[.slice (some ⟨g,0,none⟩) xs.length c,.int .i64 i,.slice (some ⟨vb,0,none⟩) 1 1] w fun e w'=>e=.returned (.slice (some ⟨g,0,none⟩) (xs.length+1) c)∧IRow w' base (.slice (some ⟨g,0,none⟩) (xs.length+1) c) (xs.take i++m::xs.drop i)∧Kp (fun b=>b≠g) w w':=by
 rcases h with⟨h,-⟩|⟨g0,c0,cur,ch,hv,hb,hh,k1,k2,k3,k4,k5⟩
 · cases h
 · simp only[Value.slice.injEq,Option.some.injEq,Addr.mk.injEq,and_true,true_and]at hv
   obtain⟨rfl,rfl⟩:=hv;obtain⟨i0,hi0,hz0,hz1,-⟩:=info_parts Tryz.info44;have hov:∀lb cb,(callFunc 116 #[.slice (some ⟨vb,0,none⟩) 1 1,.slice (some ⟨g,(i+1)*4,none⟩) lb cb]).run Tryz.prog w=.ok (.value (.bool false)) w:=fun lb cb=>by
    obtain⟨fn,hfn,hfs⟩:=Option.map_eq_some_iff.1 Yos;simp only[Prod.mk.injEq]at hfs;rw[run_callFunc_extern hfn hfs.1 hfs.2.1 hfs.2.2.1 hfs.2.2.2,Lib.run_overlaps_apart w 35 4 44 Tryz.underlying35 4 (fun w=>ZK) ⟨vb,0,none⟩ ⟨g,(i+1)*4,none⟩ 1 1 lb cb hvb 44 44 cs.toArray.size cur.size (YiT hbx) (YiT hh) ZO (hbx.frozen _) (hbx.frozen _)];rfl
   obtain⟨news,hnews⟩:∃news,news=(ch.drop i).flatten:=⟨_,rfl⟩;have hd:=(k4.drop i).flat;rw[List.length_drop,← hnews]at hd;have hcm:c≤9223372036854775807:=by unfold maxLen at k2;omega
   have hn1:=(k4.drop i).ones;rw[← hnews]at hn1;have hcp1:∀ty dc sc,(Builtin.copy_ #[35,35] ty #[.slice (some ⟨g,(i+1)*4,none⟩) (xs.length-i) dc,.slice (some ⟨g,i*4,none⟩) (xs.length+1-i) sc]).run Tryz.prog w.drew=.ok (goInt (Nat.min (xs.length+1-i) (xs.length-i))) (w.drew.setCells g ((i+1)*4) news):=fun ty dc sc=>
    Yid w.drew _ ty 44 i0 Tryz.underlying35 hi0 g ((i+1)*4) _ dc cur hh.drew ⟨g,i*4,none⟩ _ sc news (by rw[hd,hz1];simp only[Nat.min_def];split<;>omega) (fun j u hj=>by
     rw[Addr.add_lit];show w.cell? _=_;have hlt:=(List.getElem?_eq_some_iff.1 hj).1;rw[hh.cell,← Array.getElem?_toList];rw[hnews,← Yic k4.all,List.getElem?_drop,← k5,List.getElem?_take,if_pos ZO]at hj
     exact hj) ZO hn1
   obtain⟨W1,hW1⟩:∃W1,W1=w.drew.setCells g ((i+1)*4) news:=⟨_,rfl⟩;obtain⟨cs1,b1,z1,-⟩:=YcH news (w:=w.drew) (o:=(i+1)*4) hh.drew ZO;rw[← hW1]at b1 hcp1;have hbx1:BoxAt W1 vb cs.toArray 44:=by rw[hW1];exact(Kp.setCells (D:=fun b=>b≠g) (fun h=>h rfl) _ Kp.refl.drew).blk vb hvb hbx.lt |>.trans hbx
   have hcp2:∀ty dc,(Builtin.copy_ #[35,35] ty #[.slice (some ⟨g,i*4,none⟩) (xs.length+1-i) dc,.slice (some ⟨vb,0,none⟩) 1 1]).run Tryz.prog W1=.ok (goInt (Nat.min 1 (xs.length+1-i))) (W1.setCells g (i*4) cs):=fun ty dc=>
    Yid W1 _ ty 44 i0 Tryz.underlying35 hi0 g (i*4) _ dc cs1 b1 ⟨vb,0,none⟩ 1 1 cs (by rw[hl,hz1];simp only[Nat.min_def];split<;>omega) (fun j u hj=>by
     rw[Addr.add_lit,Nat.zero_add,hbx1.cell]
     simpa using hj) ZO (YeA hm)
   have HX:=Lh (IRow.ins (w:=w.drew) hb hh.drew hc k2 k3 (k4.kt (ts:=[3]) KT.refl.drew ZS) k5 (Nat.le_of_lt hi) hl (CIn.kt (ts:=[3]) KT.refl.drew ZS hm));have HN:=Lh hnews;have HW:=Lh hW1;have hic:i≤c:=by omega
   have hc1:¬(c=i+1):=by omega
   have hc2:¬(c=i):=by omega
   have hz2:((i:Int)==(xs.length:Int))=false:=by simp;omega
   have hin:(i:Int)≤(xs.length:Int):=by omega
   have hi0':(0:Int)≤(i:Int)+1:=by omega
   have hi1:(i:Int)+1≤(xs.length:Int)+1:=by omega
   have hi2:(i:Int)≤(xs.length:Int)+1:=by omega
   have htn:((i:Int)+1).toNat=i+1:=by omega
   have hw1:IntKind.i64.wrap ((i:Int)+1)=(i:Int)+1:=by rw[IntKind.wrap_i64]<;>omega
   have hcz:(xs.length:Int)+1≤(c:Int):=by omega
   have hdc:decide ((xs.length:Int)+1 > (c:Int))=false:=decide_eq_false ZO;have mixed:Tryz.prog.follows .mixedOrders=true:=by kernel_rfl
   clear hnews hW1 hd hn1 hh k2 k3 k4 k5 b1 z1 hz0 hbx hbx1 hm;go_enter Tryz.func82,Tryz.ntmps82;go_wp2_with(simp only[hov])
   go_region_law_o (refine step_copy_runI rfl _ _ 35 35 rfl _ _ (by simp[Act.eval,Act.put]) (by simp[Act.eval,Act.put]) (hcp1 _ _ _) ?_)
   go_wp2_with(at_builtin;refine wpList_copy_runI _ rfl _ _ 35 35 rfl _ _ rfl rfl (hcp2 _ _) ?_);go_ret;rw[HW.out,HN.out];exact⟨rfl,HX.out,Kp.setCells (fun h=>h rfl) _ (Kp.setCells (fun h=>h rfl) _ Kp.refl.drew)⟩
end Go.Proofs.YtjlclkcmfokobaaGreatDoor
