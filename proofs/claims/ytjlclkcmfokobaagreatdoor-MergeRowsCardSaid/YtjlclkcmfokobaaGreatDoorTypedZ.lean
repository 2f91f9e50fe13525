/- The walk of print.Shaped. -/
import Derived.Test.YtjlclkcmfokobaaGreatDoorListsZ
import Derived.Laws.OwnMore
import Derived.Deep.LoopGhost
namespace Go.Proofs.YtjlclkcmfokobaaGreatDoor
open Go.RowKit
set_option maxRecDepth 100000
def YaJ(F:PFunc)(b:PBlock):Bool:=!(b.phis.any fun x=>!YI F x)&&!(b.insts.any fun x=>!Ym F x)&&YJ F b.term
def YaK:List PBlock→Nat
 |[]=>0
 |b::r=>b.phis.length+b.insts.length+YaK r
def Yj(F:PFunc):Bool:=Yag F&&F.blocks.all (YaJ F)&&decide (YaK F.blocks≤1024)
theorem FnBox.of3{w w':World}{x y z:Value}{t:TypeId}(hb:Below (w.heap.size+1) (w.alloc (.cells #[x,y,z] t)) w'):FnBox w' (.pointer (some ⟨w.heap.size,0,none⟩)) (.agg #[x,y,z]):=by
 obtain⟨h,h0,h1,h2⟩:=Yn hb;exact⟨_,_,_,_,rfl,rfl,h,h0,h1,h2⟩
set_option maxHeartbeats 4000000 in
theorem YkP{W w:World}{fv:Value}{F:PFunc}(hU:Uni W)(hF:FnV W W.heap.size fv F)(hW:Below W.heap.size W w)(hS:YU F) :
 Calls Tryz.prog 127 #[fv] w fun e w'=>e=.returned (.bool (Yj F))∧Below w.heap.size w w':=by
 have hnm:=fun(w:World) (h:Below W.heap.size W w)=>YkO hU hF h hS
 obtain⟨A0,c0,A1,c1,A2,c2,rfl,l0,l1,l2,-,-,-,r0,r1,r2⟩:=id hF.open_;obtain⟨s0,s1,s2⟩:=id hS;unfold Len at *;have hWs:=hW.size;have hb0:=(Br w.heap.size w).alloc (Nr _) (.cells #[.slice A0 F.vars.length c0,.slice A1 F.params.length c1,.slice A2 F.blocks.length c2] 26);cases hn:Yag F
 · have HF:=Lh (show Yj F=false by rw[Yj,hn];rfl)
   rw[hn]at hnm;clear hn;go_enter Tryz.func127,Tryz.ntmps127;go_wp2_with(go_at_call 159;refine(hnm _ BL).mono ?_;(rintro e w1 ⟨rfl,hb1⟩;obtain⟨hc1,hf1⟩:=Ya hb1;have hz1:=hb1.size;try simp at hz1;try have hy1:=Nl hz1;try have hx1:=Ns hy1;try have hw1:=Ns hx1));go_ret;exact⟨Yb HF.out.symm,BL⟩
 have HN:=Lh (show Yj F=(F.blocks.all (YaJ F)&&decide (YaK F.blocks≤1024)) by rw[Yj,hn];rfl);rw[hn]at hnm;clear hn;go_enter Tryz.func127,Tryz.ntmps127;go_wp2_with(go_at_call 159;refine(hnm _ BL).mono ?_;(rintro e w1 ⟨rfl,hb1⟩;obtain⟨hc1,hf1⟩:=Ya hb1;have hz1:=hb1.size;try simp at hz1;try have hy1:=Nl hz1;try have hx1:=Ns hy1;try have hw1:=Ns hx1));have hbb:Below (w.heap.size+1) (w.alloc (.cells #[.slice A0 F.vars.length c0,.slice A1 F.params.length c1,.slice A2 F.blocks.length c2] 26)) w1:=by simpa using hb1
 go_loopw[3,13] (fun s i wr=>∃n m:Nat,s=.int .i64 m∧i=.int .i64 n∧n≤F.blocks.length∧m≤n*2097152∧Below (w.heap.size+1) (w.alloc (.cells #[.slice A0 F.vars.length c0,.slice A1 F.params.length c1,.slice A2 F.blocks.length c2] 26)) wr∧
  Hid (Yj F=((F.blocks.drop n).all (YaJ F)&&decide (m+YaK (F.blocks.drop n)≤1024)))) (fun _ i _=>F.blocks.length-(intOf i).toNat)
 case atStart=>exact⟨0,0,rfl,rfl,Nz _,Nz _,hbb,by rw[Hid,HN.out];simp⟩
 case round=>
  obtain⟨n,m,rfl,rfl,hn,hm,hb,hf⟩:=hrel;have hB:=hb0.trans (hb.mono (Nat.le_succ _));have hWr:Below W.heap.size W wr:=hW.trans (hB.mono hWs);have hbx:=FnBox.of3 hb;obtain⟨hq,hq0,hq1,hq2⟩:=Yn hb
  by_cases hlt:n<F.blocks.length
  · obtain⟨bb,off,A3,c3,A4,c4,rfl,hbb,hnz,hy0,hy1,hy2,hy3,hy4,hy5,hy6,l3,l4,k3,k4,r3,r4⟩:=r2.blk hWr hlt
    have hd:=Lh (Yct hlt);have hsm:=s2 n hlt;have hms:m<4398046511104:=by omega
    have hP:=fun(w1:World) (h:Below wr.heap.size wr w1)=>Ykz (c0:=c3) r3 l3 (hWr.trans (h.mono hWr.size)) _ _ _ YkA (YkC hF (hWr.trans (h.mono hWr.size)) (hbx.later h) _)
    have hI:=fun(w1:World) (h:Below wr.heap.size wr w1)=>YkD (c0:=c4) r4 l4 (hWr.trans (h.mono hWr.size)) _ _ _ YkE (YkG hF (hWr.trans (h.mono hWr.size)) (hbx.later h) _)
    have hT:=fun(w1:World)=>Ykx (w:=w1) (F.blk n).term hF
    cases hx:(F.blk n).phis.any fun x=>!YI F x
    rotate_left
    · have HF:=Lh (show Yj F=false by rw[hf.out,hd.out,List.all_cons,YaJ,hx];rfl)
      rw[hx]at hP;clear hx;go_wp2_with(go_at_call 160;refine(hP _ BL).mono ?_;(rintro e w2 ⟨rfl,hb2⟩;obtain⟨hc2,hf2⟩:=Ya hb2;have hz2:=hb2.size;try simp at hz2;try have hy2:=Nl hz2;try have hx2:=Ns hy2;try have hw2:=Ns hx2);have hqa:=Nat.lt_trans hq hy2);go_ret;exact⟨Yb HF.out.symm,hB.trans BL⟩
    rw[hx]at hP;cases hy:(F.blk n).insts.any fun x=>!Ym F x
    rotate_left
    · have HF:=Lh (show Yj F=false by rw[hf.out,hd.out,List.all_cons,YaJ,hy];simp)
      rw[hy]at hI;clear hx hy;go_wp2_with(first|(go_at_call 160;refine(hP _ BL).mono ?_;(rintro e w2 ⟨rfl,hb2⟩;obtain⟨hc2,hf2⟩:=Ya hb2;have hz2:=hb2.size;try simp at hz2;try have hy2:=Nl hz2;try have hx2:=Ns hy2;try have hw2:=Ns hx2);have hqa:=Nat.lt_trans hq hy2)|(go_at_call 76;refine(hI _ BL).mono ?_;(rintro e w3 ⟨rfl,hb3⟩;obtain⟨hc3,hf3⟩:=Ya hb3;have hz3:=hb3.size;try simp at hz3;try have hy3:=Nl hz3;try have hx3:=Ns hy3;try have hw3:=Ns hx3);have hqc:=Nt hqa hz3;have hqd:=Nt hy2 hz3));go_ret;exact⟨Yb HF.out.symm,hB.trans BL⟩
    rw[hy]at hI;cases hz:YJ F (F.blk n).term
    · have HF:=Lh (show Yj F=false by rw[hf.out,hd.out,List.all_cons,YaJ,hz];simp)
      rw[hz]at hT;clear hx hy hz;go_wp2_with(first|(go_at_call 160;refine(hP _ BL).mono ?_;(rintro e w2 ⟨rfl,hb2⟩;obtain⟨hc2,hf2⟩:=Ya hb2;have hz2:=hb2.size;try simp at hz2;try have hy2:=Nl hz2;try have hx2:=Ns hy2;try have hw2:=Ns hx2);have hqa:=Nat.lt_trans hq hy2)|(go_at_call 76;refine(hI _ BL).mono ?_;(rintro e w3 ⟨rfl,hb3⟩;obtain⟨hc3,hf3⟩:=Ya hb3;have hz3:=hb3.size;try simp at hz3;try have hy3:=Nl hz3;try have hx3:=Ns hy3;try have hw3:=Ns hx3);have hqc:=Nt hqa hz3;have hqd:=Nt hy2 hz3)|(go_at_call 165;refine(hT _).mono ?_;(rintro e w4 ⟨rfl,hb4⟩;obtain⟨hc4,hf4⟩:=Ya hb4;have hz4:=hb4.size;try simp at hz4;try have hy4:=Nl hz4;try have hx4:=Ns hy4;try have hw4:=Ns hx4)));go_ret;exact⟨Yb HF.out.symm,hB.trans BL⟩
    rw[hz]at hT;have HF:=Lh (show Yj F=((F.blocks.drop (n+1)).all (YaJ F)&&decide (m+(F.blk n).phis.length+(F.blk n).insts.length+YaK (F.blocks.drop (n+1))≤1024)) by rw[hf.out,hd.out,List.all_cons,YaJ,hx,hy,hz,YaK];simp only[Bool.not_false,Bool.true_and,Nat.add_assoc]);clear hx hy hz;go_wp2_with(first|(go_at_call 160;refine(hP _ BL).mono ?_;(rintro e w2 ⟨rfl,hb2⟩;obtain⟨hc2,hf2⟩:=Ya hb2;have hz2:=hb2.size;try simp at hz2;try have hy2:=Nl hz2;try have hx2:=Ns hy2;try have hw2:=Ns hx2);have hqa:=Nat.lt_trans hq hy2)|(go_at_call 76;refine(hI _ BL).mono ?_;(rintro e w3 ⟨rfl,hb3⟩;obtain⟨hc3,hf3⟩:=Ya hb3;have hz3:=hb3.size;try simp at hz3;try have hy3:=Nl hz3;try have hx3:=Ns hy3;try have hw3:=Ns hx3);have hqc:=Nt hqa hz3;have hqd:=Nt hy2 hz3)|(go_at_call 165;refine(hT _).mono ?_;(rintro e w4 ⟨rfl,hb4⟩;obtain⟨hc4,hf4⟩:=Ya hb4;have hz4:=hb4.size;try simp at hz4;try have hy4:=Nl hz4;try have hx4:=Ns hy4;try have hw4:=Ns hx4)));go_roundw
    case rel=>exact⟨n+1,m+(F.blk n).phis.length+(F.blk n).insts.length,ZN,ZN,ZO,ZO,hb.trans BL,HF⟩
    case measure=>simp[intOf];omega
  · have hf2:=Lh (show Yj F=decide (m≤1024) by rw[hf.out,List.drop_eq_nil_of_le ZO];rfl)
    have hms:m<4398046511104:=by omega
    go_wp2;go_ret;exact⟨Yb (by rw[hf2.out];simp;omega),hB⟩
def Yh(F:PFunc)(v:Int):Int:=(F.var v.toNat).ty
theorem YpY{v:Int}{n:Nat}(h:inB v n=true):∃k:Nat,v=k∧k<n:=by
 unfold inB at h;simp at h;exact⟨v.toNat,ZO,ZO⟩
theorem Ycu{W w:World}{fv:Value}{F:PFunc}(hF:FnV W W.heap.size fv F)(hW:Below W.heap.size W w){v:Int}(hv:inB v F.vars.length=true) :
 Calls Tryz.prog 167 #[fv,.int .i64 v] w fun e w'=>e=.returned (.int .i64 (Yh F v))∧Below w.heap.size w w':=Yj2 hF hW v (YQ hv).1 (YQ hv).2
theorem Ycv{W w:World}{fv:Value}{F:PFunc}(hF:FnV W W.heap.size fv F)(hW:Below W.heap.size W w){v:Int}(hv:inB v F.vars.length=true) :
 Calls Tryz.prog 86 #[fv,.int .i64 v] w fun e w'=>e=.returned (.int .i64 (Yh F v))∧Below w.heap.size w w':=Yj3 hF hW v (YQ hv).1 (YQ hv).2
def Yfp(w:World)(k:FuncId)(c d:Value)(xs:List Int)(p:Int→Bool):Prop:=
 ∀x,x∈xs→∀w1,Below w.heap.size w w1→Calls Tryz.prog k #[.int .i64 x,c,d] w1 fun e w'=>e=.returned (.bool (p x))∧Below w1.heap.size w1 w'
set_option maxHeartbeats 400000 in
theorem YkQ{W w:World}{A:Option Addr}{c0:Nat}{xs:List Int}(hr:Rd W.heap.size A xs 1 (Yk W))(hl:Len xs.length)(hW:Below W.heap.size W w)(k:FuncId)(c d:Value)(p:Int→Bool)(eg:∀args w,(callFunc k args).run Tryz.prog w=.ok (.enter k args) w)(hp:Yfp w k c d xs p) :
 Calls Tryz.prog 184 #[.slice A xs.length c0,.func (.func k) #[] #[c,d]] w fun e w'=>e=.returned (.int .i64 (Yg p xs 0))∧Below w.heap.size w w':=by
 unfold Len at hl;go_enter Tryz.func184,Tryz.ntmps184;go_wp2
 go_loopw[5,8] (fun _ i wr=>∃n:Nat,i=.int .i64 n∧n≤xs.length∧Below w.heap.size w wr∧Hid (Yg p xs 0=Yg p (xs.drop n) n)) (fun _ i _=>xs.length-(intOf i).toNat)
 case atStart=>exact⟨0,rfl,Nz _,Br _ _,by simp[Hid]⟩
 case round=>
  obtain⟨n,rfl,hn,hb,hf⟩:=hrel
  by_cases hlt:n<xs.length
  · obtain⟨b,off,rfl,hbs,hc⟩:=hr.int (hW.trans (hb.mono hW.size)) hlt
    have hcl:=hp _ (Ycf hlt) wr hb;have hd:=Lh (YaI hlt);cases hx:p (ith xs n)
    · rw[hx]at hcl
      have hf2:=Lh (show Yg p xs 0=Yg p (xs.drop (n+1)) (n+1) by rw[hf.out,hd.out,Yg,if_neg (by rw[hx];decide)]);clear hx;go_wp2_with(go_at_fn k;refine hcl.mono ?_;(rintro e w1 ⟨rfl,hb1⟩;obtain⟨hc1,hf1⟩:=Ya hb1;have hz1:=hb1.size;try simp at hz1;try have hy1:=Nl hz1;try have hx1:=Ns hy1;try have hw1:=Ns hx1));go_roundw
      case rel=>exact⟨n+1,ZN,ZO,BL,hf2⟩
      case measure=>simp[intOf];omega
    · rw[hx]at hcl
      have hf2:=Lh (show Yg p xs 0=n by rw[hf.out,hd.out,Yg,if_pos hx]);clear hx;go_wp2_with(go_at_fn k;refine hcl.mono ?_;(rintro e w1 ⟨rfl,hb1⟩;obtain⟨hc1,hf1⟩:=Ya hb1;have hz1:=hb1.size;try simp at hz1;try have hy1:=Nl hz1;try have hx1:=Ns hy1;try have hw1:=Ns hx1));go_ret;exact⟨Yt hf2.out.symm,BL⟩
  · have hf2:=Lh (show Yg p xs 0=-1 by rw[hf.out,List.drop_eq_nil_of_le ZO];rfl)
    go_wp2;go_ret;exact⟨Yt hf2.out.symm,hb⟩
theorem YkR{W w:World}{A:Option Addr}{c0:Nat}{xs:List Int}(hr:Rd W.heap.size A xs 1 (Yk W))(hl:Len xs.length)(hW:Below W.heap.size W w)(k:FuncId)(c d:Value)(p:Int→Bool)(eg:∀args w,(callFunc k args).run Tryz.prog w=.ok (.enter k args) w)(hp:Yfp w k c d xs p) :
 Calls Tryz.prog 152 #[.slice A xs.length c0,.func (.func k) #[] #[c,d]] w fun e w'=>e=.returned (.bool (xs.any p))∧Below w.heap.size w w':=by
 have hi:=YkQ (c0:=c0) hr hl hW k c d p eg hp;go_enter Tryz.func152,Tryz.ntmps152;go_wp2_with(go_at_call 184;refine hi.mono ?_;rintro e w1 ⟨rfl,hb⟩);go_ret;exact⟨Yam (by simp only[decide_eq_true_eq];exact Ycq p xs 0),hb⟩
theorem YkS:∀args w,(callFunc 166 args).run Tryz.prog w=.ok (.enter 166 args) w:=fun _ _=>by kernel_rfl
theorem YkT{W w:World}{fv pv c d:Value}{F:PFunc}{x:PPhi}(hF:FnV W W.heap.size fv F)(hW:Below W.heap.size W w)(hc:FnBox w c fv)(hd:FnBox w d pv)(hp:PhiV W W.heap.size pv x)
 {v:Int} (hv:inB v F.vars.length=true) (hx:inB x.dst F.vars.length=true) :
 Calls Tryz.prog 166 #[.int .i64 v,c,d] w fun e w'=>e=.returned (.bool (Yh F v !=Yh F x.dst))∧Below w.heap.size w w':=by
 have h1:=fun(w:World) (h:Below W.heap.size W w)=>Ycu hF h hv
 have h2:=fun(w:World) (h:Below W.heap.size W w)=>Ycu hF h hx
 have hWs:=hW.size;obtain⟨b,y0,y1,y2,rfl,rfl,hl,h00,h01,h02⟩:=hc;obtain⟨b',z0,z1,z2,rfl,rfl,hl',h10,h11,h12⟩:=hd;obtain⟨A1,c1,A2,c2,hpe,-⟩:=hp.open_;simp only[Value.agg.injEq,Array.mk.injEq,List.cons.injEq,and_true]at hpe;obtain⟨rfl,rfl,rfl⟩:=hpe;go_enter Tryz.func166,Tryz.ntmps166;go_wp2_with fail;obtain⟨S0,hS0⟩:∃S0:World→Prop,S0=fun w'=>w'.cell? ⟨b,0,none⟩=some y0∧w'.cell? ⟨b,1,none⟩=some y1∧w'.cell? ⟨b,2,none⟩=some y2∧w'.cell? ⟨b',0,none⟩=some (.int .i64 x.dst)∧Below w.heap.size w w'∧b<w'.heap.size∧b'<w'.heap.size:=⟨_,rfl⟩
 have HS0:=Lh hS0;clear hS0;have k0:=fun xw=>(WS.at HS0 xw).1
 have k1:=fun xw=>(WS.at HS0 xw).2.1
 have k2:=fun xw=>(WS.at HS0 xw).2.2.1
 have k3:=fun xw=>(WS.at HS0 xw).2.2.2.1
 have k4:=fun xw=>(WS.at HS0 xw).2.2.2.2.1
 have k5:=fun xw=>(WS.at HS0 xw).2.2.2.2.2.1
 have k6:=fun xw=>(WS.at HS0 xw).2.2.2.2.2.2
 refine Yz (S:=S0) [0,1,3,4,5,2,6,7,8] ZK ZK (fun _ _ _ _ _ h=>h) ?hS (fun hSc=>?_)
 case hS=>
  rw[HS0.out];exact⟨ZI,ZI,ZI,ZI,BL,ZJ,ZJ⟩
 have hne0:Nonempty (WS S0):=⟨⟨_,hSc⟩⟩;simp only[List.map_cons,List.map_nil,Ld,Le]
 repeat
  first
  |((with_reducible refine YA ?_ ?_);exact rfl;go_big_quiet_step (fail);(try with_reducible refine wpQuiet_nil ?_);(try dsimp only))
  |((with_reducible refine YF ?_ ?_ (fun K hK=>?_))
    exact rfl;exact rfl;go_simp;(try go_wp2_with(first|(go_at_call 167;first|(with_reducible refine(h1 _ (hW.trans ((k4 ⟨_,hSc⟩).mono hWs))).mono ?_;(rintro e w9 ⟨rfl,hb9⟩;obtain⟨hc9,hf9⟩:=Ya hb9;have hz9:=hb9.size;try simp at hz9;try have hy9:=Nl hz9;try have hx9:=Ns hy9;try have hw9:=Ns hx9))|(with_reducible refine(h2 _ (hW.trans ((k4 ⟨_,hSc⟩).mono hWs))).mono ?_;(rintro e w9 ⟨rfl,hb9⟩;obtain⟨hc9,hf9⟩:=Ya hb9;have hz9:=hb9.size;try simp at hz9;try have hy9:=Nl hz9;try have hx9:=Ns hy9;try have hw9:=Ns hx9)))));refine hK.out _ _ ?hS (fun hSc=>?_)
    case hS=>
     first
     |exact hSc
     |(rw[HS0.out]at hSc ⊢;obtain⟨p0,p1,p2,p3,p4,p5,p6⟩:=hSc;exact⟨ZC0,ZC1,ZC2,ZC3,(by first|exact p4.trans (hb9.mono (by have:=p4.size;first|omega|(simp at this ⊢;omega)))|exact BL),(by first|exact Nt p5 hb9.size|exact ZT),ZT6⟩)
    clear hK K)
 refine YB ?_;rw[HS0.out]at hSc;obtain⟨p0,p1,p2,p3,p4,p5,p6⟩:=hSc;clear hne0 HS0 k0 k1 k2 k3 k4 k5 k6;go_wp2;go_ret;exact⟨rfl,p4⟩
theorem FnBox.newP(w:World)(x y z:Value)(t:TypeId){w':World}(hb:Below (w.heap.size+1) (w.alloc (.cells #[x,y,z] t)) w'):FnBox w' (.pointer (some ⟨w.heap.size,0,none⟩)) (.agg #[x,y,z]):=FnBox.of3 hb
def Yab(F:PFunc)(x:PPhi):Bool:=x.args.all fun v=>Yh F v==Yh F x.dst
def Yay(F:PFunc)(t:PTerm):Bool:=
 if t.kind=0 then t.t0 !=0 else if t.kind=1 then Yh F t.var==1&&t.t0 !=0&&t.t1 !=0 else Yh F t.var==0
set_option maxHeartbeats 400000 in
theorem YkU{W w:World}{fv pv:Value}{F:PFunc}{x:PPhi}(hF:FnV W W.heap.size fv F)(hp:PhiV W W.heap.size pv x)(hW:Below W.heap.size W w)
 (ha:Yw F x.args=true) (hx:inB x.dst F.vars.length=true) :
 Calls Tryz.prog 128 #[fv,pv] w fun e w'=>e=.returned (.bool (Yab F x))∧Below w.heap.size w w':=by
 have hWs:=hW.size;obtain⟨A0,c0,A1,c1,A2,c2,rfl,-⟩:=id hF.open_;obtain⟨A3,c3,A4,c4,rfl,l3,l4,k3,k4,r3,r4⟩:=id hp.open_;have hpr:Yfp ((w.alloc (.cells #[.slice A0 F.vars.length c0,.slice A1 F.params.length c1,.slice A2 F.blocks.length c2] 26)).alloc (.cells #[.int .i64 x.dst,.slice A3 x.args.length c3,.slice A4 x.froms.length c4] 76)) 166 (.pointer (some ⟨w.heap.size,0,none⟩)) (.pointer (some ⟨w.heap.size+1,0,none⟩)) x.args (fun v=>Yh F v !=Yh F x.dst):=by
  intro v hv w1 hb1;have hz:=hb1.size;simp at hz;refine YkT hF (hW.trans ?_) (FnBox.of3 (w:=w) (t:=26) ?_) ?_ hp (List.all_eq_true.1 ha v hv) hx
  · refine Below.mono (((Br w.heap.size w).alloc (Nr _) (.cells #[.slice A0 F.vars.length c0,.slice A1 F.params.length c1,.slice A2 F.blocks.length c2] 26)).alloc ZS (.cells #[.int .i64 x.dst,.slice A3 x.args.length c3,.slice A4 x.froms.length c4] 76) |>.trans (hb1.mono ZX)) hWs
  · refine Below.trans ?_ (hb1.mono ZS)
    exact(Br _ _).alloc ZS _
  · have:=FnBox.of3 (w:=w.alloc (.cells #[.slice A0 F.vars.length c0,.slice A1 F.params.length c1,.slice A2 F.blocks.length c2] 26)) (t:=76) (hb1.mono ZS)
    simpa using this
 go_enter Tryz.func128,Tryz.ntmps128;go_wp2_with(go_at_call 152;refine(YkR r3 l3 BL _ _ _ _ YkS hpr).mono ?_;rintro e w1 ⟨rfl,hb⟩);go_ret;exact⟨Yb (by unfold Yab;rw[List.all_eq_not_any_not];simp[bne]),BL⟩
set_option maxHeartbeats 400000 in
theorem YkV{W w:World}{fv:Value}{F:PFunc}(t:PTerm)(hF:FnV W W.heap.size fv F)(hW:Below W.heap.size W w)(hv:t.kind≠0→inB t.var F.vars.length=true) :
 Calls Tryz.prog 130 #[fv,.agg #[.int .i64 t.kind,.int .i64 t.var,.int .i64 t.t0,.int .i64 t.t1]] w fun e w'=>e=.returned (.bool (Yay F t))∧Below w.heap.size w w':=by
 have hWs:=hW.size;obtain⟨A0,c0,A1,c1,A2,c2,rfl,-⟩:=id hF.open_
 by_cases h0:t.kind=0
 · have HF:=Lh (show Yay F t=(t.t0 !=0) by rw[Yay,if_pos h0])
   by_cases h1:t.t0=0
   all_goals
    go_enter Tryz.func130,Tryz.ntmps130;go_wp2;go_ret;exact⟨Yb (by rw[HF.out]<;>simp[h1]),BL⟩
 have hk:=fun(w:World) (h:Below W.heap.size W w)=>Ycu hF h (hv h0)
 by_cases h1:t.kind=1
 · have HF:=Lh (show Yay F t=(Yh F t.var==1&&t.t0 !=0&&t.t1 !=0) by rw[Yay,if_neg h0,if_pos h1])
   by_cases h2:Yh F t.var=1
   · by_cases h3:t.t0=0
     all_goals
      go_enter Tryz.func130,Tryz.ntmps130;go_wp2_with(go_at_call 167;refine(hk _ BL).mono ?_;(rintro e w1 ⟨rfl,hb1⟩;obtain⟨hc1,hf1⟩:=Ya hb1;have hz1:=hb1.size;try simp at hz1;try have hy1:=Nl hz1;try have hx1:=Ns hy1;try have hw1:=Ns hx1));go_ret;exact⟨Yb (by rw[HF.out];simp[h2,h3]),BL⟩
   · go_enter Tryz.func130,Tryz.ntmps130
     go_wp2_with(go_at_call 167;refine(hk _ BL).mono ?_;(rintro e w1 ⟨rfl,hb1⟩;obtain⟨hc1,hf1⟩:=Ya hb1;have hz1:=hb1.size;try simp at hz1;try have hy1:=Nl hz1;try have hx1:=Ns hy1;try have hw1:=Ns hx1));go_ret;exact⟨Yb (by rw[HF.out];simp[h2]),BL⟩
 · have HF:=Lh (show Yay F t=(Yh F t.var==0) by rw[Yay,if_neg h0,if_neg h1])
   go_enter Tryz.func130,Tryz.ntmps130;go_wp2_with(go_at_call 167;refine(hk _ BL).mono ?_;(rintro e w1 ⟨rfl,hb1⟩;obtain⟨hc1,hf1⟩:=Ya hb1;have hz1:=hb1.size;try simp at hz1;try have hy1:=Nl hz1;try have hx1:=Ns hy1;try have hw1:=Ns hx1));go_ret;exact⟨Yb HF.out.symm,BL⟩
def YV(F:PFunc):List Int→List Int→Bool
 |a::l,t::m=>Yh F a==t&&YV F l m
 |_,_=>true
def YE(F:PFunc)(x:PInst):Bool:=
 if x.op=1 then Yh F x.dst==Yh F (ith x.args 0) else YV F x.args (YM x.op)&&(!Yaf x.op||Yh F x.dst==YbB x.op)
theorem YgZ{F:PFunc}{l m:List Int}{n:Nat}(ha:n<l.length)(ht:n<m.length):YV F (l.drop n) (m.drop n)=(Yh F (ith l n)==ith m n&&YV F (l.drop (n+1)) (m.drop (n+1))):=by
 rw[YaI ha,YaI ht];rfl
theorem Yg0{F:PFunc}{l m:List Int}{n:Nat}(ht:m.length≤n):YV F (l.drop n) (m.drop n)=true:=by
 rw[List.drop_eq_nil_of_le ht];cases l.drop n<;>rfl
set_option maxHeartbeats 1000000 in
theorem YkW{W w:World}{fv xv:Value}{F:PFunc}{x:PInst}(hF:FnV W W.heap.size fv F)(hx:InstV W W.heap.size xv x)(hW:Below W.heap.size W w)
 (hv:Yw F x.args=true) (hl:x.args.length=(YM x.op).length) (hd:Yaf x.op=true→inB x.dst F.vars.length=true) :
 Calls Tryz.prog 129 #[fv,xv] w fun e w'=>e=.returned (.bool (YE F x))∧Below w.heap.size w w':=by
 have hWs:=hW.size;obtain⟨A0,c0,A1,c1,A2,c2,rfl,-⟩:=id hF.open_;obtain⟨A3,c3,rfl,l3,k3,r3⟩:=id hx.open_;unfold Len at *;have hany:=fun w=>Ykd (w:=w) x.op
 by_cases h0:x.op=1
 · have HF:=Lh (show YE F x=(Yh F x.dst==Yh F (ith x.args 0)) by rw[YE,if_pos h0])
   have hlt:0<x.args.length:=by rw[hl,h0];decide +kernel
   have h1:=fun(w:World) (h:Below W.heap.size W w)=>Ycu hF h (hd (by rw[h0];decide +kernel))
   have h2:=fun(w:World) (h:Below W.heap.size W w)=>Ycu hF h (List.all_eq_true.1 hv _ (Ycf hlt))
   obtain⟨b,off,rfl,hbs,hc⟩:=r3.int hW hlt;rw[show decide (x.op=1)=true by simp[h0]]at hany;rw[Nat.add_zero]at hc;clear h0 hl hd;go_enter Tryz.func129,Tryz.ntmps129;go_wp2_with(go_at_call 168;refine(hany _).mono ?_;rintro e w1 ⟨rfl,rfl⟩);obtain⟨S0,hS0⟩:∃S0:World→Prop,S0=fun w'=>w'.cell? ⟨w.heap.size,0,none⟩=some (.slice A0 F.vars.length c0)∧w'.cell? ⟨w.heap.size,1,none⟩=some (.slice A1 F.params.length c1)∧w'.cell? ⟨w.heap.size,2,none⟩=some (.slice A2 F.blocks.length c2)∧w'.cell? ⟨w.heap.size+1,1,none⟩=some (.int .i64 x.dst)∧w'.cell? ⟨w.heap.size+1,2,none⟩=some (.slice (some ⟨b,off,none⟩) x.args.length c3)∧w'.cell? ⟨b,off,none⟩=some (.int .i64 (ith x.args 0))∧Below w.heap.size w w'∧w.heap.size+1<w'.heap.size∧b<w'.heap.size:=⟨_,rfl⟩
   have HS0:=Lh hS0;clear hS0;have k0:=fun xw=>(WS.at HS0 xw).1
   have k1:=fun xw=>(WS.at HS0 xw).2.1
   have k2:=fun xw=>(WS.at HS0 xw).2.2.1
   have k3:=fun xw=>(WS.at HS0 xw).2.2.2.1
   have k4:=fun xw=>(WS.at HS0 xw).2.2.2.2.1
   have k5:=fun xw=>(WS.at HS0 xw).2.2.2.2.2.1
   have k6:=fun xw=>(WS.at HS0 xw).2.2.2.2.2.2.1
   have k7:=fun xw=>(WS.at HS0 xw).2.2.2.2.2.2.2.1
   have k8:=fun xw=>(WS.at HS0 xw).2.2.2.2.2.2.2.2
   refine Yz (S:=S0) [0,1,2,4,5,6,7,8,3,9,10,11] ZK ZK (fun _ _ _ _ _ h=>h) ?hS (fun hSc=>?_)
   case hS=>
    rw[HS0.out];exact⟨ZI,ZI,ZI,ZI,ZI,ZI,BL,ZJ,ZJ⟩
   have hne0:Nonempty (WS S0):=⟨⟨_,hSc⟩⟩;simp only[List.map_cons,List.map_nil,Ld,Le]
   repeat
    first
    |((with_reducible refine YA ?_ ?_);exact rfl;go_big_quiet_step (fail);(try with_reducible refine wpQuiet_nil ?_);(try dsimp only))
    |((with_reducible refine YF ?_ ?_ (fun K hK=>?_))
      exact rfl;exact rfl;go_simp;(try go_wp2_with(first|(go_at_call 167;first|(with_reducible refine(h1 _ (hW.trans ((k6 ⟨_,hSc⟩).mono hWs))).mono ?_;(rintro e w9 ⟨rfl,hb9⟩;obtain⟨hc9,hf9⟩:=Ya hb9;have hz9:=hb9.size;try simp at hz9;try have hy9:=Nl hz9;try have hx9:=Ns hy9;try have hw9:=Ns hx9))|(with_reducible refine(h2 _ (hW.trans ((k6 ⟨_,hSc⟩).mono hWs))).mono ?_;(rintro e w9 ⟨rfl,hb9⟩;obtain⟨hc9,hf9⟩:=Ya hb9;have hz9:=hb9.size;try simp at hz9;try have hy9:=Nl hz9;try have hx9:=Ns hy9;try have hw9:=Ns hx9)))));refine hK.out _ _ ?hS (fun hSc=>?_)
      case hS=>
       first
       |exact hSc
       |(rw[HS0.out]at hSc ⊢;obtain⟨p0,p1,p2,p3,p4,p5,p6,p7,p8⟩:=hSc;exact⟨ZC0,ZC1,ZC2,ZC3,ZC4,ZC5,ZL6,ZT7,ZT8⟩)
      clear hK K)
   refine YB ?_;rw[HS0.out]at hSc;obtain⟨p0,p1,p2,p3,p4,p5,p6,p7,p8⟩:=hSc;clear hne0 HS0 k0 k1 k2 k3 k4 k5 k6 k7 k8;go_wp2;go_ret;exact⟨Yb HF.out.symm,p6⟩
 have HF:=Lh (show YE F x=(YV F (x.args.drop 0) ((YM x.op).drop 0)&&(!Yaf x.op||Yh F x.dst==YbB x.op)) by rw[YE,if_neg h0];rfl);rw[show decide (x.op=1)=false by simp[h0]]at hany;have htk:=fun w=>Yce (w:=w) x.op
 have hmk:=fun w=>YgQ (w:=w) x.op
 have HL:=Lh hl;clear h0 hl;go_enter Tryz.func129,Tryz.ntmps129;go_wp2_with(first|(go_at_call 168;refine(hany _).mono ?_;rintro e w1 ⟨rfl,rfl⟩)|(go_at_call 169;refine(htk _).mono ?_;(rintro e w5 ⟨A5,c5,rfl,l5,k5,r5,hb5⟩;obtain⟨hc5,hf5⟩:=Ya hb5;have hz5:=hb5.size;try simp at hz5;try have hy5:=Nl hz5;try have hx5:=Ns hy5;try have hw5:=Ns hx5)));have hW5:Below w.heap.size w w5:=BL;have hq5:w.heap.size+1<w5.heap.size:=by omega
 go_loopw[5,6,27] (fun _ _ i wr=>∃n:Nat,i=.int .i64 n∧n≤(YM x.op).length∧Below w5.heap.size w5 wr∧Hid (YE F x=(YV F (x.args.drop n) ((YM x.op).drop n)&&(!Yaf x.op||Yh F x.dst==YbB x.op)))) (fun _ _ i _=>(YM x.op).length-(intOf i).toNat)
 case atStart=>exact⟨0,rfl,Nz _,Br _ _,HF⟩
 case round=>
  obtain⟨n,rfl,hn,hb,hf⟩:=hrel;obtain⟨hcr,hfr⟩:=Ya hb;have hqr:=Nt hq5 hb.size;have hqr1:=Ns hqr;have hq51:=Ns hq5;have hB:=hW5.trans (hb.mono hW5.size);have hWr:=hW.trans (hB.mono hWs)
  by_cases hlt:n<(YM x.op).length
  · have hlt2:n<x.args.length:=by rw[HL.out];exact hlt
    obtain⟨b,off,rfl,hbs,hc⟩:=r3.int hWr hlt2;obtain⟨b2,off2,rfl,hbs2,hc2⟩:=r5.int hb hlt;have h1:=fun(w:World) (h:Below W.heap.size W w)=>Ycu hF h (List.all_eq_true.1 hv _ (Ycf hlt2))
    have hd2:=Lh (YgZ (F:=F) (l:=x.args) (m:=YM x.op) (n:=n) hlt2 hlt)
    by_cases hx:Yh F (ith x.args n)=ith (YM x.op) n
    · have HF2:=Lh (show YE F x=(YV F (x.args.drop (n+1)) ((YM x.op).drop (n+1))&&(!Yaf x.op||Yh F x.dst==YbB x.op)) by rw[hf.out,hd2.out,hx];simp)
      have hx':(Yh F (ith x.args n) !=ith (YM x.op) n)=false:=by simpa using hx
      clear hx;go_wp2_with fail;obtain⟨S0,hS0⟩:∃S0:World→Prop,S0=fun w'=>w'.cell? ⟨w.heap.size,0,none⟩=some (.slice A0 F.vars.length c0)∧w'.cell? ⟨w.heap.size,1,none⟩=some (.slice A1 F.params.length c1)∧w'.cell? ⟨w.heap.size,2,none⟩=some (.slice A2 F.blocks.length c2)∧w'.cell? ⟨w.heap.size+1,0,none⟩=some (.int .i64 x.op)∧w'.cell? ⟨w.heap.size+1,2,none⟩=some (.slice (some ⟨b,off,none⟩) x.args.length c3)∧w'.cell? ⟨b,off+n,none⟩=some (.int .i64 (ith x.args n))∧Below wr.heap.size wr w'∧w.heap.size+1<w'.heap.size∧b<w'.heap.size:=⟨_,rfl⟩
      have HS0:=Lh hS0;clear hS0;have k0:=fun xw=>(WS.at HS0 xw).1
      have k1:=fun xw=>(WS.at HS0 xw).2.1
      have k2:=fun xw=>(WS.at HS0 xw).2.2.1
      have k3:=fun xw=>(WS.at HS0 xw).2.2.2.1
      have k4:=fun xw=>(WS.at HS0 xw).2.2.2.2.1
      have k5:=fun xw=>(WS.at HS0 xw).2.2.2.2.2.1
      have k6:=fun xw=>(WS.at HS0 xw).2.2.2.2.2.2.1
      have k7:=fun xw=>(WS.at HS0 xw).2.2.2.2.2.2.2.1
      have k8:=fun xw=>(WS.at HS0 xw).2.2.2.2.2.2.2.2
      refine Yz (S:=S0) [0,1,2,3,4,5,7,6,8] ZK ZK (fun _ _ _ _ _ h=>h) ?hS (fun hSc=>?_)
      case hS=>
       rw[HS0.out];exact⟨ZI,ZI,ZI,ZI,ZI,ZI,BL,ZJ,ZJ⟩
      have hne0:Nonempty (WS S0):=⟨⟨_,hSc⟩⟩;simp only[List.map_cons,List.map_nil,Ld,Le]
      repeat
       first
       |((with_reducible refine YA ?_ ?_);exact rfl;go_big_quiet_step (fail);(try with_reducible refine wpQuiet_nil ?_);(try dsimp only))
       |((with_reducible refine YF ?_ ?_ (fun K hK=>?_))
         exact rfl;exact rfl;go_simp;(try go_wp2_with(first|(go_at_call 167;refine(h1 _ (hWr.trans ((k6 ⟨_,hSc⟩).mono hWr.size))).mono ?_;(rintro e w9 ⟨rfl,hb9⟩;obtain⟨hc9,hf9⟩:=Ya hb9;have hz9:=hb9.size;try simp at hz9;try have hy9:=Nl hz9;try have hx9:=Ns hy9;try have hw9:=Ns hx9))));refine hK.out _ _ ?hS (fun hSc=>?_)
         case hS=>
          first
          |exact hSc
          |(rw[HS0.out]at hSc ⊢;obtain⟨p0,p1,p2,p3,p4,p5,p6,p7,p8⟩:=hSc;exact⟨ZC0,ZC1,ZC2,ZC3,ZC4,ZC5,ZL6,ZT7,ZT8⟩)
         clear hK K)
      refine YB ?_;rw[HS0.out]at hSc;obtain⟨p0,p1,p2,p3,p4,p5,p6,p7,p8⟩:=hSc;clear hne0 HS0 k0 k1 k2 k3 k4 k5 k6 k7 k8;go_wp2;go_roundw
      case rel=>exact⟨n+1,ZN,ZO,hb.trans (p6.mono hb.size),HF2⟩
      case measure=>simp[intOf];omega
    · have HF2:=Lh (show YE F x=false by rw[hf.out,hd2.out,beq_eq_false_iff_ne.2 hx];rfl)
      have hx':(Yh F (ith x.args n) !=ith (YM x.op) n)=true:=by simpa using hx
      clear hx;go_wp2_with fail;obtain⟨S0,hS0⟩:∃S0:World→Prop,S0=fun w'=>w'.cell? ⟨w.heap.size,0,none⟩=some (.slice A0 F.vars.length c0)∧w'.cell? ⟨w.heap.size,1,none⟩=some (.slice A1 F.params.length c1)∧w'.cell? ⟨w.heap.size,2,none⟩=some (.slice A2 F.blocks.length c2)∧w'.cell? ⟨w.heap.size+1,0,none⟩=some (.int .i64 x.op)∧w'.cell? ⟨w.heap.size+1,2,none⟩=some (.slice (some ⟨b,off,none⟩) x.args.length c3)∧w'.cell? ⟨b,off+n,none⟩=some (.int .i64 (ith x.args n))∧Below wr.heap.size wr w'∧w.heap.size+1<w'.heap.size∧b<w'.heap.size:=⟨_,rfl⟩
      have HS0:=Lh hS0;clear hS0;have k0:=fun xw=>(WS.at HS0 xw).1
      have k1:=fun xw=>(WS.at HS0 xw).2.1
      have k2:=fun xw=>(WS.at HS0 xw).2.2.1
      have k3:=fun xw=>(WS.at HS0 xw).2.2.2.1
      have k4:=fun xw=>(WS.at HS0 xw).2.2.2.2.1
      have k5:=fun xw=>(WS.at HS0 xw).2.2.2.2.2.1
      have k6:=fun xw=>(WS.at HS0 xw).2.2.2.2.2.2.1
      have k7:=fun xw=>(WS.at HS0 xw).2.2.2.2.2.2.2.1
      have k8:=fun xw=>(WS.at HS0 xw).2.2.2.2.2.2.2.2
      refine Yz (S:=S0) [0,1,2,3,4,5,7,6,8] ZK ZK (fun _ _ _ _ _ h=>h) ?hS (fun hSc=>?_)
      case hS=>
       rw[HS0.out];exact⟨ZI,ZI,ZI,ZI,ZI,ZI,BL,ZJ,ZJ⟩
      have hne0:Nonempty (WS S0):=⟨⟨_,hSc⟩⟩;simp only[List.map_cons,List.map_nil,Ld,Le]
      repeat
       first
       |((with_reducible refine YA ?_ ?_);exact rfl;go_big_quiet_step (fail);(try with_reducible refine wpQuiet_nil ?_);(try dsimp only))
       |((with_reducible refine YF ?_ ?_ (fun K hK=>?_))
         exact rfl;exact rfl;go_simp;(try go_wp2_with(first|(go_at_call 167;refine(h1 _ (hWr.trans ((k6 ⟨_,hSc⟩).mono hWr.size))).mono ?_;(rintro e w9 ⟨rfl,hb9⟩;obtain⟨hc9,hf9⟩:=Ya hb9;have hz9:=hb9.size;try simp at hz9;try have hy9:=Nl hz9;try have hx9:=Ns hy9;try have hw9:=Ns hx9))));refine hK.out _ _ ?hS (fun hSc=>?_)
         case hS=>
          first
          |exact hSc
          |(rw[HS0.out]at hSc ⊢;obtain⟨p0,p1,p2,p3,p4,p5,p6,p7,p8⟩:=hSc;exact⟨ZC0,ZC1,ZC2,ZC3,ZC4,ZC5,ZL6,ZT7,ZT8⟩)
         clear hK K)
      refine YB ?_;rw[HS0.out]at hSc;obtain⟨p0,p1,p2,p3,p4,p5,p6,p7,p8⟩:=hSc;clear hne0 HS0 k0 k1 k2 k3 k4 k5 k6 k7 k8;go_wp2;go_ret;exact⟨Yb HF2.out.symm,hB.trans (p6.mono ZO)⟩
  · have HE:=Lh (show YE F x=(!Yaf x.op||Yh F x.dst==YbB x.op) by rw[hf.out,Yg0 ZO,Bool.true_and])
    clear hf hn;cases hm:Yaf x.op
    · rw[hm]at HE hmk
      clear hm;go_wp2_with(go_at_call 170;refine(hmk _).mono ?_;(rintro e w1 ⟨rfl,hb1⟩;obtain⟨hc1,hf1⟩:=Ya hb1;have hz1:=hb1.size;try simp at hz1;try have hy1:=Nl hz1;try have hx1:=Ns hy1;try have hw1:=Ns hx1));go_ret;exact⟨Yb HE.out.symm,BL⟩
    · have h1:=fun(w:World) (h:Below W.heap.size W w)=>Ycu hF h (hd hm)
      rw[hm]at HE hmk;clear hm;go_wp2_with(first|(go_at_call 170;refine(hmk _).mono ?_;(rintro e w1 ⟨rfl,hb1⟩;obtain⟨hc1,hf1⟩:=Ya hb1;have hz1:=hb1.size;try simp at hz1;try have hy1:=Nl hz1;try have hx1:=Ns hy1;try have hw1:=Ns hx1))|(go_at_call 167;refine(h1 _ BL).mono ?_;(rintro e w2 ⟨rfl,hb2⟩;obtain⟨hc2,hf2⟩:=Ya hb2;have hz2:=hb2.size;try simp at hz2;try have hy2:=Nl hz2;try have hx2:=Ns hy2;try have hw2:=Ns hx2)));go_ret;exact⟨Yb HE.out.symm,BL⟩
def YK(F:PFunc)(b:PBlock):Bool:=b.phis.all (Yab F)&&b.insts.all (YE F)&&Yay F b.term
def Yd(F:PFunc):Bool:=Yj F&&F.blocks.all (YK F)
def YX(b:Bool):Int:=if b then 0 else 3
theorem Y4{F:PFunc}{i:Nat}(h:i<F.blocks.length):F.blk i∈F.blocks:=List.mem_of_getElem? (PFunc.blk_get h)
theorem Yg1{α:Type}{p:α→Bool}{l:List α}(h:(!(l.any fun x=>!p x))=true):∀x∈l,p x=true:=fun x hx=>by
 rw[List.not_any_eq_all_not,List.all_eq_true]at h;have:=h x hx;simpa using this
theorem Ybd{F:PFunc}(h:Yj F=true){n:Nat}(hn:n<F.blocks.length):(∀x∈(F.blk n).phis,YI F x=true)∧(∀x∈(F.blk n).insts,Ym F x=true)∧YJ F (F.blk n).term=true:=by
 unfold Yj at h;simp only[Bool.and_eq_true,List.all_eq_true]at h;have:=h.1.2 _ (Y4 hn);unfold YaJ at this;simp only[Bool.and_eq_true]at this;exact⟨Yg1 this.1.1,Yg1 this.1.2,this.2⟩
theorem Yfq{F:PFunc}{x:PPhi}(h:YI F x=true):Yw F x.args=true∧inB x.dst F.vars.length=true:=by
 unfold YI at h;simp only[Bool.and_eq_true]at h;exact⟨h.1.2,h.1.1.2⟩
theorem Yg2{F:PFunc}{x:PInst}(h:Ym F x=true):Yw F x.args=true∧x.args.length=(YM x.op).length∧(Yaf x.op=true→inB x.dst F.vars.length=true):=by
 unfold Ym at h;simp only[Bool.and_eq_true,decide_eq_true_eq]at h;refine⟨h.1.1.2,h.1.1.1.2,fun hm=>?_⟩;have:=h.1.2;rw[YaX,if_pos hm]at this;exact this
theorem Yfr{F:PFunc}{t:PTerm}(h:YJ F t=true):t.kind≠0→inB t.var F.vars.length=true:=fun h0=>by
 unfold YJ at h;rw[if_neg h0]at h
 by_cases h1:t.kind=1
 · rw[if_pos h1]at h
   simp only[Bool.and_eq_true]at h;exact h.1.1
 · rw[if_neg h1]at h
   by_cases h2:t.kind=2
   · rw[if_pos h2]at h
     simp only[Bool.and_eq_true]at h;exact h.1
   · rw[if_neg h2]at h
     cases h
set_option maxHeartbeats 4000000 in
theorem Yg3{W w:World}{fv:Value}{F:PFunc}(hU:Uni W)(hF:FnV W W.heap.size fv F)(hW:Below W.heap.size W w)(hS:YU F) :
 Calls Tryz.prog 102 #[fv] w fun e w'=>e=.returned (.int .i64 (YX (Yd F)))∧Below w.heap.size w w':=by
 have hsh:=fun(w:World) (h:Below W.heap.size W w)=>YkP hU hF h hS
 obtain⟨A0,c0,A1,c1,A2,c2,rfl,l0,l1,l2,-,-,-,r0,r1,r2⟩:=id hF.open_;unfold Len at *;have hWs:=hW.size;cases hs:Yj F
 · have HF:=Lh (show YX (Yd F)=3 by rw[Yd,hs];rfl)
   rw[hs]at hsh;clear hs;go_enter Tryz.func102,Tryz.ntmps102;go_wp2_with(go_at_call 127;refine(hsh _ BL).mono ?_;(rintro e w1 ⟨rfl,hb1⟩;obtain⟨hc1,hf1⟩:=Ya hb1;have hz1:=hb1.size;try simp at hz1;try have hy1:=Nl hz1;try have hx1:=Ns hy1;try have hw1:=Ns hx1));go_ret;exact⟨Yt HF.out.symm,BL⟩
 have HN:=Lh (show Yd F=F.blocks.all (YK F) by rw[Yd,hs];rfl);have HS:=Lh hs;rw[hs]at hsh;clear hs;have hb0:=(Br w.heap.size w).alloc (Nr _) (.cells #[.slice A0 F.vars.length c0,.slice A1 F.params.length c1,.slice A2 F.blocks.length c2] 26);go_enter Tryz.func102,Tryz.ntmps102;go_wp2_with(go_at_call 127;refine(hsh _ BL).mono ?_;(rintro e w1 ⟨rfl,hb1⟩;obtain⟨hc1,hf1⟩:=Ya hb1;have hz1:=hb1.size;try simp at hz1;try have hy1:=Nl hz1;try have hx1:=Ns hy1;try have hw1:=Ns hx1));have hbb:Below (w.heap.size+1) (w.alloc (.cells #[.slice A0 F.vars.length c0,.slice A1 F.params.length c1,.slice A2 F.blocks.length c2] 26)) w1:=by simpa using hb1
 go_loopw[15] (fun i wr=>∃n:Nat,i=.int .i64 n∧n≤F.blocks.length∧Below (w.heap.size+1) (w.alloc (.cells #[.slice A0 F.vars.length c0,.slice A1 F.params.length c1,.slice A2 F.blocks.length c2] 26)) wr∧
  Hid (Yd F=(F.blocks.drop n).all (YK F))) (fun i _=>F.blocks.length-(intOf i).toNat)
 case atStart=>exact⟨0,rfl,Nz _,hbb,HN⟩
 case round=>
  obtain⟨n,rfl,hn,hb,hf⟩:=hrel;have hB:=hb0.trans (hb.mono (Nat.le_succ _));have hWr:Below W.heap.size W wr:=hW.trans (hB.mono hWs);obtain⟨hq,hq0,hq1,hq2⟩:=Yn hb
  by_cases hlt:n<F.blocks.length
  · obtain⟨bb,off,A3,c3,A4,c4,rfl,hbb,hnz,hy0,hy1,hy2,hy3,hy4,hy5,hy6,l3,l4,k3,k4,r3,r4⟩:=r2.blk hWr hlt
    have hd:=Lh (Yct hlt);unfold Len at *;obtain⟨HP,HI,HT⟩:=Lh (Ybd HS.out hlt) |>.out;replace HP:=Lh HP;replace HI:=Lh HI;have hT:=fun(w:World) (h:Below W.heap.size W w)=>YkV (F.blk n).term hF h (Yfr HT)
    clear HT;obtain⟨wo,rfl⟩:∃wo:World,wo=wr:=⟨_,rfl⟩;go_wp2
    go_loopw[22] (fun i wr=>∃m:Nat,i=.int .i64 m∧m≤(F.blk n).phis.length∧Below (wo.alloc (.cells #[.string (F.blk n).name,.slice A3 (F.blk n).phis.length c3,.slice A4 (F.blk n).insts.length c4,.int .i64 (F.blk n).term.kind,.int .i64 (F.blk n).term.var,.int .i64 (F.blk n).term.t0,.int .i64 (F.blk n).term.t1] 41)).heap.size (wo.alloc (.cells #[.string (F.blk n).name,.slice A3 (F.blk n).phis.length c3,.slice A4 (F.blk n).insts.length c4,.int .i64 (F.blk n).term.kind,.int .i64 (F.blk n).term.var,.int .i64 (F.blk n).term.t0,.int .i64 (F.blk n).term.t1] 41)) wr∧
     Hid ((F.blk n).phis.all (Yab F)=((F.blk n).phis.drop m).all (Yab F))) (fun i _=>(F.blk n).phis.length-(intOf i).toNat)
    case atStart=>exact⟨0,rfl,Nz _,Br _ _,by simp[Hid]⟩
    case round=>
     obtain⟨m,rfl,hm,hbi,hfi⟩:=hrel;obtain⟨hci,hgi⟩:=Ya hbi;have hzi:=hbi.size;simp at hzi;have hqi:=Nl hzi;have hqj:=Nat.lt_trans hq hqi;have hBi:Below wo.heap.size wo wr:=((Br _ _).alloc (Nr _) _).trans (hbi.mono ZS);have hWi:=hWr.trans (hBi.mono hWr.size)
     by_cases hmt:m<(F.blk n).phis.length
     · obtain⟨b5,off5,A5,c5,A6,c6,rfl,hbb5,hx0,hx1,hx2,l5,l6,k5,k6,r5,r6⟩:=r3.phi hWi hmt
       have hcl:=fun(w:World) (h:Below W.heap.size W w)=>YkU hF (x:=(F.blk n).phi m) ⟨_,_,rfl,⟨A5,c5,rfl,l5,k5,r5⟩,A6,c6,rfl,l6,k6,r6⟩ h (Yfq (HP.out _ (Ybo hmt))).1 (Yfq (HP.out _ (Ybo hmt))).2
       have hdi:=Lh (Yds hmt);cases hx:Yab F ((F.blk n).phi m)
       · have HF:=Lh (show YX (Yd F)=3 by rw[hf.out,hd.out,List.all_cons,YK,hfi.out,hdi.out,List.all_cons,hx];rfl)
         rw[hx]at hcl;clear hx;go_wp2_with(go_at_call 128;refine(hcl _ (hWi.trans BL)).mono ?_;(rintro e w2 ⟨rfl,hb2⟩;obtain⟨hc2,hf2⟩:=Ya hb2;have hz2:=hb2.size;try simp at hz2;try have hy2:=Nl hz2;try have hx2:=Ns hy2;try have hw2:=Ns hx2));go_ret;exact⟨Yt HF.out.symm,hB.trans ((hBi.trans BL).mono (Nat.le_of_lt hq))⟩
       · have HF:=Lh (show(F.blk n).phis.all (Yab F)=((F.blk n).phis.drop (m+1)).all (Yab F) by rw[hfi.out,hdi.out,List.all_cons,hx];rfl)
         rw[hx]at hcl;clear hx;go_wp2_with(go_at_call 128;refine(hcl _ (hWi.trans BL)).mono ?_;(rintro e w2 ⟨rfl,hb2⟩;obtain⟨hc2,hf2⟩:=Ya hb2;have hz2:=hb2.size;try simp at hz2;try have hy2:=Nl hz2;try have hx2:=Ns hy2;try have hw2:=Ns hx2));go_roundw
         case rel=>exact⟨m+1,ZN,ZO,hbi.trans BL,HF⟩
         case measure=>simp[intOf];omega
     · have hfp:=Lh (show(F.blk n).phis.all (Yab F)=true by rw[hfi.out,List.drop_eq_nil_of_le ZO];rfl)
       clear hfi hgi;obtain⟨wp,rfl⟩:∃wp:World,wp=wr:=⟨_,rfl⟩;go_wp2
       go_loopw[34] (fun i wr=>∃m:Nat,i=.int .i64 m∧m≤(F.blk n).insts.length∧Below wp.heap.size wp wr∧
        Hid ((F.blk n).insts.all (YE F)=((F.blk n).insts.drop m).all (YE F))) (fun i _=>(F.blk n).insts.length-(intOf i).toNat)
       case atStart=>exact⟨0,rfl,Nz _,Br _ _,by simp[Hid]⟩
       case round=>
        obtain⟨m,rfl,hm,hbk,hfi⟩:=hrel;obtain⟨hck,hgk⟩:=Ya hbk;have hzk:=hbk.size;have hqk:=Nt hqi hzk;have hql:=Nat.lt_trans hq hqk;have hBk:Below wo.heap.size wo wr:=hBi.trans (hbk.mono hBi.size);have hWk:=hWr.trans (hBk.mono hWr.size)
        by_cases hmt:m<(F.blk n).insts.length
        · obtain⟨b5,off5,A5,c5,rfl,hbb5,hx0,hx1,hx2,hx3,l5,k5,r5⟩:=r4.inst hWk hmt
          have hip:=Yg2 (HI.out _ (Yar hmt));have hcl:=fun(w:World) (h:Below W.heap.size W w)=>YkW hF (x:=(F.blk n).inst m) ⟨_,rfl,A5,c5,rfl,l5,k5,r5⟩ h hip.1 hip.2.1 hip.2.2
          clear hip;have hdi:=Lh (YcX hmt);cases hx:YE F ((F.blk n).inst m)
          · have HF:=Lh (show YX (Yd F)=3 by rw[hf.out,hd.out,List.all_cons,YK,hfi.out,hdi.out,List.all_cons,hx];simp[YX])
            rw[hx]at hcl;clear hx;go_wp2_with(go_at_call 129;refine(hcl _ (hWk.trans BL)).mono ?_;(rintro e w2 ⟨rfl,hb2⟩;obtain⟨hc2,hf2⟩:=Ya hb2;have hz2:=hb2.size;try simp at hz2;try have hy2:=Nl hz2;try have hx2:=Ns hy2;try have hw2:=Ns hx2));go_ret;exact⟨Yt HF.out.symm,hB.trans ((hBk.trans BL).mono (Nat.le_of_lt hq))⟩
          · have HF:=Lh (show(F.blk n).insts.all (YE F)=((F.blk n).insts.drop (m+1)).all (YE F) by rw[hfi.out,hdi.out,List.all_cons,hx];rfl)
            rw[hx]at hcl;clear hx;go_wp2_with(go_at_call 129;refine(hcl _ (hWk.trans BL)).mono ?_;(rintro e w2 ⟨rfl,hb2⟩;obtain⟨hc2,hf2⟩:=Ya hb2;have hz2:=hb2.size;try simp at hz2;try have hy2:=Nl hz2;try have hx2:=Ns hy2;try have hw2:=Ns hx2));go_roundw
            case rel=>exact⟨m+1,ZN,ZO,hbk.trans BL,HF⟩
            case measure=>simp[intOf];omega
        · have hfq:=Lh (show(F.blk n).insts.all (YE F)=true by rw[hfi.out,List.drop_eq_nil_of_le ZO];rfl)
          cases hx:Yay F (F.blk n).term
          · have HF:=Lh (show YX (Yd F)=3 by rw[hf.out,hd.out,List.all_cons,YK,hx];simp[YX])
            rw[hx]at hT;clear hx;go_wp2_with(go_at_call 130;refine(hT _ hWk).mono ?_;(rintro e w2 ⟨rfl,hb2⟩;obtain⟨hc2,hf2⟩:=Ya hb2;have hz2:=hb2.size;try simp at hz2;try have hy2:=Nl hz2;try have hx2:=Ns hy2;try have hw2:=Ns hx2));go_ret;exact⟨Yt HF.out.symm,hB.trans ((hBk.trans BL).mono (Nat.le_of_lt hq))⟩
          · have HF:=Lh (show Yd F=(F.blocks.drop (n+1)).all (YK F) by rw[hf.out,hd.out,List.all_cons,YK,hfp.out,hfq.out,hx];rfl)
            rw[hx]at hT;clear hx;go_wp2_with(go_at_call 130;refine(hT _ hWk).mono ?_;(rintro e w2 ⟨rfl,hb2⟩;obtain⟨hc2,hf2⟩:=Ya hb2;have hz2:=hb2.size;try simp at hz2;try have hy2:=Nl hz2;try have hx2:=Ns hy2;try have hw2:=Ns hx2));go_roundw
            case rel=>exact⟨n+1,ZN,ZO,hb.trans ((hBk.trans BL).mono (Nat.succ_le_of_lt hq)),HF⟩
            case measure=>simp[intOf];omega
  · have hf2:=Lh (show YX (Yd F)=0 by rw[hf.out,List.drop_eq_nil_of_le ZO];rfl)
    go_wp2;go_ret;exact⟨Yt hf2.out.symm,hB⟩
def endsOf(t:PTerm):List Int:=if t.kind=0 then [t.t0] else if t.kind=1 then(if t.t0=t.t1 then [t.t0] else [t.t0,t.t1]) else []
theorem YkX(t:PTerm):(endsOf t).length≤2:=by
 unfold endsOf;split
 · exact ZS
 · split
   · split<;>simp
   · exact ZS
theorem YkY{t:PTerm}{b:Int}:b∈endsOf t↔leads t b=true:=by
 unfold endsOf leads
 by_cases h0:t.kind=0
 · simp[h0];omega
 · by_cases h1:t.kind=1
   · by_cases h2:t.t0=t.t1
     · simp[h1,h2];omega
     · simp[h1,h2];omega
   · simp[h0,h1]
theorem RetInts.nil_{w w':World}(hb:Below w.heap.size w w'):RetInts w [] (.returned (.slice none 0 0)) w':=⟨none,0,rfl,by simp[Len],ZS,fun i x hx=>by simp at hx,hb⟩
theorem RetInts.one{w w':World}{b:Nat}{x:Int}{c:Nat}(hc:1≤c)(hb:b<w'.heap.size)(h:w'.cell? ⟨b,0,none⟩=some (.int .i64 x))(hB:Below w.heap.size w w'):RetInts w [x] (.returned (.slice (some ⟨b,0,none⟩) 1 c)) w':=by
 refine⟨_,_,rfl,by simp[Len],hc,?_,hB⟩;intro i y hy
 match i,hy with
 |0,hy=>exact⟨b,0,rfl,hb,by have e:x=y:=Option.some.inj hy;subst e;exact h⟩
 |i+1,hy=>cases(show(none:Option Int)=some y from hy)
theorem RetInts.two{w w':World}{b:Nat}{x y:Int}{c:Nat}(hc:2≤c)(hb:b<w'.heap.size)(h:w'.cell? ⟨b,0,none⟩=some (.int .i64 x))(h1:w'.cell? ⟨b,1,none⟩=some (.int .i64 y))(hB:Below w.heap.size w w'):RetInts w [x,y] (.returned (.slice (some ⟨b,0,none⟩) 2 c)) w':=by
 refine⟨_,_,rfl,by simp[Len],hc,?_,hB⟩;intro i z hz
 match i,hz with
 |0,hz=>exact⟨b,0,rfl,hb,by have e:x=z:=Option.some.inj hz;subst e;exact h⟩
 |1,hz=>exact⟨b,0,rfl,hb,by have e:y=z:=Option.some.inj hz;subst e;exact h1⟩
 |i+2,hz=>cases(show(none:Option Int)=some z from hz)
theorem YkZ{w:World}(t:PTerm) :
 Calls Tryz.prog 48 #[.agg #[.int .i64 t.kind,.int .i64 t.var,.int .i64 t.t0,.int .i64 t.t1]] w (RetInts w (endsOf t)):=by
 by_cases h0:t.kind=0
 · have HF:=Lh (show endsOf t=[t.t0] by rw[endsOf,if_pos h0])
   go_enter Tryz.func48,Tryz.ntmps48;go_wp2;go_ret;rw[HF.out];exact RetInts.one (Nr _) (by first|omega|exact Below.size ZA|(simp;done)|(simp;omega)) ZS BL
 by_cases h1:t.kind=1
 · by_cases h2:t.t0=t.t1
   · have HF:=Lh (show endsOf t=[t.t0] by rw[endsOf,if_neg h0,if_pos h1,if_pos h2])
     go_enter Tryz.func48,Tryz.ntmps48;go_wp2;go_ret;rw[HF.out];exact RetInts.one (Nr _) (by first|omega|exact Below.size ZA|(simp;done)|(simp;omega)) (by simp[h2]) BL
   · have HF:=Lh (show endsOf t=[t.t0,t.t1] by rw[endsOf,if_neg h0,if_pos h1,if_neg h2])
     go_enter Tryz.func48,Tryz.ntmps48;go_wp2;go_ret;rw[HF.out];exact RetInts.two (Nr _) (by first|omega|exact Below.size ZA|(simp;done)|(simp;omega)) ZS ZS BL
 · have HF:=Lh (show endsOf t=[] by rw[endsOf,if_neg h0,if_neg h1])
   go_enter Tryz.func48,Tryz.ntmps48;go_wp2;go_ret;rw[HF.out];exact RetInts.nil_ BL
theorem YbZ{W w:World}{fv:Value}{F:PFunc}(hU:Uni W)(hF:FnV W W.heap.size fv F)(hW:Below W.heap.size W w)(hS:YU F) :
 Calls Tryz.prog 90 #[fv] w fun e w'=>e=.returned (.bool (Yd F))∧Below w.heap.size w w':=by
 have ht:=fun(w:World) (h:Below W.heap.size W w)=>Yg3 hU hF h hS
 have hWs:=hW.size;obtain⟨A0,c0,A1,c1,A2,c2,rfl,-⟩:=id hF.open_;cases hx:Yd F
 all_goals
  rw[hx]at ht;unfold YX at ht;clear hx;go_enter Tryz.func90,Tryz.ntmps90;go_wp2_with(go_at_call 102;refine(ht _ BL).mono ?_;(rintro e w1 ⟨rfl,hb1⟩;obtain⟨hc1,hf1⟩:=Ya hb1;have hz1:=hb1.size;try simp at hz1;try have hy1:=Nl hz1;try have hx1:=Ns hy1;try have hw1:=Ns hx1));go_ret;exact⟨rfl,BL⟩
end Go.Proofs.YtjlclkcmfokobaaGreatDoor
namespace Go.Proofs.YtjlclkcmfokobaaGreatDoor
open Go.RowKit
theorem Y5{w:World}{B B' e e' size size' n n':Nat}{v v':Value}{xs xs':List Value}(h:w.ownsRow B e size v n xs)(h':w.ownsRow B' e' size' v' n' xs')(hne:e≠e'){g:Nat}(hg:v.ownBlock=some g):v'.ownBlock≠some g:=by
 intro hg';rcases h.2 with⟨rfl,_⟩|⟨g1,cap,cur,rfl,_,h1,_⟩
 · simp[Value.ownBlock]at hg
 · rcases h'.2 with⟨rfl,_⟩|⟨g2,cap',cur',rfl,_,h2,_⟩
   · simp[Value.ownBlock]at hg'
   · simp only[Value.ownBlock,Option.some.injEq]at hg hg'
     subst hg;subst hg';rw[h1]at h2;simp only[Option.some.injEq,Obj.cells.injEq]at h2;exact hne h2.2.1
theorem Yan{w a w':World}{base e sz n:Nat}{v:Value}{xs:List Value}{r:Option Nat}(h:w.ownsRow base e sz v n xs)(ha:Below w.heap.size w a)(hg:a.grownBy w' r)(hne:∀g,v.ownBlock=some g→r≠some g):w'.ownsRow base e sz v n xs:=by
 obtain⟨hl,h⟩:=h;refine⟨hl,?_⟩;rcases h with h|⟨g,cap,cur,hv,hb,hh,rest⟩
 · exact .inl h
 · have hlt:=(Array.getElem?_eq_some_iff.1 hh).1
   exact .inr ⟨g,cap,cur,hv,hb,by rw[hg.block g (Nt hlt ha.size) (fun e=>hne g (by subst hv;rfl) e.symm),ha.block g hlt];exact hh,rest⟩
theorem YG{w:World}{base e sz n:Nat}{v:Value}{xs:List Value}(h:w.ownsRow base e sz v n xs){g:Nat}(hg:v.ownBlock=some g):base≤g∧g<w.heap.size:=h.lt g hg
theorem Ydu{w:World}{base e sz n:Nat}{v:Value}{xs:List Value}(h:w.ownsRow base e sz v (n+1) xs):∃g cap,v=.slice (some ⟨g,0,none⟩) (n+1) cap∧base≤g∧g<w.heap.size∧n+1≤cap∧cap≤maxLen:=by
 rcases h.2 with⟨_,h0⟩|⟨g,cap,cur,hv,h1,h2,h3,h4,_⟩
 · cases h0
 · exact⟨g,cap,hv,h1,(Array.getElem?_eq_some_iff.1 h2).1,h3,h4⟩
def YaL:List (Nat×Nat)→List Value
 |[]=>[]
 |p::r=>YaL r++[.int .i64 (p.1:Int),.int .i64 (p.2:Int)]
theorem YcY:∀l,(YaL l).length=l.length*2
 |[]=>rfl
 |p::r=>by simp[YaL,YcY r];omega
theorem Yk0(p:Nat×Nat)(r:List (Nat×Nat)):(YaL (p::r))[r.length*2]?=some (.int .i64 (p.1:Int)):=by
 rw[← YcY r];simp[YaL]
theorem Yk1(p:Nat×Nat)(r:List (Nat×Nat)):(YaL (p::r))[r.length*2+1]?=some (.int .i64 (p.2:Int)):=by
 rw[← YcY r];simp[YaL]
theorem Yg4(b k k':Nat)(r:List (Nat×Nat)):(YaL ((b,k)::r)).set (r.length*2+1) (.int .i64 (k':Int))=YaL ((b,k')::r):=by
 rw[← YcY r];simp[YaL]
theorem Yk2{w:World}{base e g cap:Nat}{p:Nat×Nat}{r:List (Nat×Nat)}(h:w.ownsRow base e 2 (.slice (some ⟨g,0,none⟩) (r.length+1) cap) (r.length+1) (YaL (p::r))) :
 w.ownsRow base e 2 (.slice (some ⟨g,0,none⟩) r.length cap) r.length (YaL r):=by
 obtain⟨h1,h2⟩:=h;rcases h2 with⟨h0,_⟩|⟨g',cap',cur,hv,hg,hh,hn,hcap,hsz,htake⟩
 · cases h0
 · cases hv
   refine⟨YcY r,.inr ⟨g,cap,cur,rfl,hg,hh,ZO,hcap,hsz,?_⟩⟩;have h3:(cur.toList.take ((r.length+1)*2)).take (r.length*2)=(YaL (p::r)).take (r.length*2):=by rw[htake]
   rw[List.take_take,Nat.min_eq_left ZO]at h3;rw[h3,← YcY r,YaL];simp
theorem Yk3(w:World)(a b:Value)(t:TypeId):∀j u,[a,b][j]?=some u→(w.alloc (.cells #[a,b] t)).cell? ((⟨w.heap.size,0,none⟩:Addr).add j)=some u:=by
 intro j u hj
 match j,hj with
 |0,hj=>simp at hj;subst hj;simp[Addr.add]
 |1,hj=>simp at hj;subst hj;simp[Addr.add]
 |j+2,hj=>simp at hj
theorem Yk4{P:Program}(w:World){ops:Array Oper}{rest:List Oper}{o:Oper}{a:Act}{Q:Exit→Act→World→Prop}(hgd:o.guard=none)(s x:Operand)(t:TypeId)
 (ho:o.op=.call { callee:=.builtin .append,args:=#[s,x],argTypes:=#[t,t] })
 (base:Nat) (e:TypeId) (bytes:Nat) (ht:P.underlying t=some (.slice e)) {z:Value} (hinf:(P.info? e).map (fun i=>(i.zero,i.size,i.bytes))=some (some z,2,bytes)) (hz1:z.cells.size=2)
 (v:Value) (n:Nat) (xs:List Value) (hs:a.eval s=v) (hown:w.ownsRow base e 2 v n xs)
 (N:Nat) (hN:w.heap.size=N) (u1 u2:Value) (hx:a.eval x=.slice (some ⟨N,0,none⟩) 1 1) (h1:u1.oneCell'=true) (h2:u2.oneCell'=true)
 (h63:n<1048576) (hby:bytes≤64) (hbase:base≤w.heap.size)
 (h:∀v' w',w'.ownsRow base e 2 v' (n+1) (xs++[u1,u2])→(w.alloc (.cells #[u1,u2] e)).grownBy w' v.ownBlock→wpList P ops Q rest (a.put o.dst v') w') :
 wpList P ops Q (o::rest) a (w.alloc (.cells #[u1,u2] e)):=by
 subst hN;obtain⟨i,hi,hz,hsz,hb⟩:=info_parts hinf;refine wpList_append_own _ hgd s x t ho base e i z 2 bytes ht hi hz hsz hb hz1 ZD v n xs hs (hown.alloc _) ⟨w.heap.size,0,none⟩ 1 1 [u1,u2] hx rfl (Yk3 w u1 u2 e) (fun q hq=>by simp at hq;rcases hq with rfl|rfl<;>assumption) (by unfold maxLen;omega) ?_ ZX (fun v' w' a b _=>h v' w' a b)
 calc(n+1)*bytes≤1048576*64:=Nat.mul_le_mul ZO hby
  _≤140737488355328:=by decide
def dfs(E:Nat→List Nat):Nat→List Bool→List Nat→List (Nat×Nat)→List Nat
 |0,_,out,_=>out
 |_+1,_,out,[]=>out
 |f+1,seen,out,(b,k)::r=>
  if k=(E b).length then dfs E f seen (out++[b]) r
  else if seen.getD ((E b).getD k 0) false then dfs E f seen out ((b,k+1)::r)
  else dfs E f (seen.set ((E b).getD k 0) true) out (((E b).getD k 0,0)::(b,k+1)::r)
theorem Yk5{E:Nat→List Nat}{f:Nat}{seen:List Bool}{out:List Nat}:dfs E f seen out []=out:=by cases f<;>rfl
theorem Yg5{E:Nat→List Nat}{f b k:Nat}{seen:List Bool}{out:List Nat}{r:List (Nat×Nat)}(h:k=(E b).length):dfs E (f+1) seen out ((b,k)::r)=dfs E f seen (out++[b]) r:=by rw[dfs,if_pos h]
theorem Yg6{E:Nat→List Nat}{f b k c:Nat}{seen:List Bool}{out:List Nat}{r:List (Nat×Nat)}(h:k≠(E b).length)(hc:(E b).getD k 0=c)(hs:seen.getD c false=true) :
 dfs E (f+1) seen out ((b,k)::r)=dfs E f seen out ((b,k+1)::r):=by rw[dfs,if_neg h,hc,if_pos hs]
theorem Yg7{E:Nat→List Nat}{f b k c:Nat}{seen:List Bool}{out:List Nat}{r:List (Nat×Nat)}(h:k≠(E b).length)(hc:(E b).getD k 0=c)(hs:seen.getD c false=false) :
 dfs E (f+1) seen out ((b,k)::r)=dfs E f (seen.set c true) out ((c,0)::(b,k+1)::r):=by rw[dfs,if_neg h,hc,hs];rfl
def frW(E:Nat→List Nat):List (Nat×Nat)→Nat
 |[]=>0
 |(b,k)::r=>((E b).length-k+1)+frW E r
structure DfsOk (E:Nat→List Nat) (n:Nat) (seen:List Bool) (out:List Nat) (stk:List (Nat×Nat)):Prop where
 len:seen.length=n
 cnt:seen.count true=out.length+stk.length
 frames:∀p∈stk,p.1<n∧p.2≤(E p.1).length
 outs:∀b∈out,b<n
theorem count_set{c:Nat}:∀{seen:List Bool},c<seen.length→seen.getD c false=false→(seen.set c true).count true=seen.count true+1:=by
 induction c with
 |zero=>
  intro seen h hs;cases seen with
  |nil=>simp at h
  |cons a r=>simp at hs;subst hs;simp
 |succ c ih=>
  intro seen h hs;cases seen with
  |nil=>simp at h
  |cons a r=>
   have:=ih (seen:=r) (by simpa using h) (by simpa using hs);simp only[Lc,List.count_cons,this];omega
section
variable {E:Nat→List Nat} {n:Nat} {seen:List Bool} {out:List Nat} {r:List (Nat×Nat)} {b k c:Nat}
theorem DfsOk.room{stk:List (Nat×Nat)}(h:DfsOk E n seen out stk):out.length+stk.length≤n:=by
 rw[← h.cnt,← h.len];exact List.count_le_length
theorem DfsOk.top(h:DfsOk E n seen out ((b,k)::r)):b<n∧k≤(E b).length:=h.frames (b,k) ZS
theorem DfsOk.pop(h:DfsOk E n seen out ((b,k)::r)):DfsOk E n seen (out++[b]) r:=
 ⟨h.len,by rw[h.cnt];simp;omega,fun p hp=>h.frames p (by simp[hp]),fun x hx=>by
   rcases List.mem_append.1 hx with hx|hx
   · exact h.outs x hx
   · simp at hx;subst hx;exact h.top.1⟩
theorem DfsOk.old(h:DfsOk E n seen out ((b,k)::r))(hk:k≠(E b).length):DfsOk E n seen out ((b,k+1)::r):=
 ⟨h.len,by rw[h.cnt];simp,fun p hp=>by
   rcases List.mem_cons.1 hp with hp|hp
   · subst hp;have:=h.top;exact⟨this.1,by show k+1≤(E b).length;omega⟩
   · exact h.frames p (by simp[hp]),h.outs⟩
theorem DfsOk.new(h:DfsOk E n seen out ((b,k)::r))(hk:k≠(E b).length)(hc:c<n)(hs:seen.getD c false=false):DfsOk E n (seen.set c true) out ((c,0)::(b,k+1)::r):=
 ⟨by rw[List.length_set,h.len],by rw[count_set (by rw[h.len];exact hc) hs,h.cnt];simp;omega,fun p hp=>by
   rcases List.mem_cons.1 hp with hp|hp
   · subst hp;exact⟨hc,Nz _⟩
   · rcases List.mem_cons.1 hp with hp|hp
     · subst hp;have:=h.top;exact⟨this.1,by show k+1≤(E b).length;omega⟩
     · exact h.frames p (by simp[hp]),h.outs⟩
end
end Go.Proofs.YtjlclkcmfokobaaGreatDoor
namespace Go.Proofs.YtjlclkcmfokobaaGreatDoor
def ChainOk(E:Nat→List Nat):List Nat→Prop
 |[]=>True
 |[x]=>x=0
 |c::b::r=>c∈E b∧ChainOk E (b::r)
def ParOk(E:Nat→List Nat)(S:List Nat):List Nat→Prop
 |[]=>True
 |v::post=>(v=0∨∃p,v∈E p∧(p∈S∨p∈post))∧ParOk E S post
theorem ParOk.mono{E:Nat→List Nat}{S S':List Nat}(h:∀x,x∈S→x∈S'):∀{l},ParOk E S l→ParOk E S' l
 |[],_=>trivial
 |_::_,⟨h1,h2⟩=>⟨by
  rcases h1 with h1|⟨p,a,b|b⟩
  · exact .inl h1
  · exact .inr ⟨p,a,.inl (h p b)⟩
  · exact .inr ⟨p,a,.inr b⟩,ParOk.mono h h2⟩
theorem ParOk.pop{E:Nat→List Nat}{S:List Nat}{b:Nat}(hb:b=0∨∃p,b∈E p∧p∈S):∀{l},ParOk E (b::S) l→ParOk E S (l++[b])
 |[],_=>⟨by
  rcases hb with h|⟨p,h1,h2⟩
  · exact .inl h
  · exact .inr ⟨p,h1,.inl h2⟩,trivial⟩
 |v::post,⟨h1,h2⟩=>⟨by
  rcases h1 with h1|⟨p,a,b|b⟩
  · exact .inl h1
  · rcases List.mem_cons.1 b with b|b
    · exact .inr ⟨p,a,.inr (by subst b;simp)⟩
    · exact .inr ⟨p,a,.inl b⟩
  · exact .inr ⟨p,a,.inr (by simp[b])⟩,ParOk.pop hb h2⟩
structure DfsInv (E:Nat→List Nat) (n:Nat) (seen:List Bool) (out:List Nat) (stk:List (Nat×Nat)):Prop where
 len:seen.length=n
 cnt:seen.count true=out.length+stk.length
 nod:(out++stk.map (·.1)).Nodup
 mem:∀v,seen.getD v false=true↔v∈out∨v∈stk.map (·.1)
 clo:∀v∈out,∀c∈E v,seen.getD c false=true
 pre:∀p∈stk,∀c∈(E p.1).take p.2,seen.getD c false=true
 ple:∀p∈stk,p.2≤(E p.1).length
 top:stk=[]→out.getLast?=some 0
 chn:ChainOk E (stk.map (·.1))
 par:ParOk E (stk.map (·.1)) out
structure DfsFin (E:Nat→List Nat) (n:Nat) (out:List Nat):Prop where
 nod:out.Nodup
 lt:∀v∈out,v<n
 clo:∀v∈out,∀c∈E v,c∈out
 last:out.getLast?=some 0
 par:ParOk E [] out
section
variable {E:Nat→List Nat} {n:Nat} {seen:List Bool} {out:List Nat} {r:List (Nat×Nat)} {b k c:Nat}
theorem Yfs{l:List Bool}{v:Nat}(h:l.getD v false=true):v<l.length:=by
 rcases Nat.lt_or_ge v l.length with h'|h'
 · exact h'
 · rw[show l.getD v false=false by simp[List.getD,h']]at h;cases h
theorem getD_set_true{l:List Bool}{c v:Nat}(hc:c<l.length):(l.set c true).getD v false=true↔v=c∨l.getD v false=true:=by
 by_cases h:c=v
 · subst h;simp[List.getD,hc]
 · have:¬v=c:=fun e=>h e.symm
   simp[List.getD,h,this]
theorem DfsInv.fin(h:DfsInv E n seen out []):DfsFin E n out:=by
 have hm:∀v,seen.getD v false=true↔v∈out:=fun v=>by simpa using h.mem v
 exact⟨by simpa using h.nod,fun v hv=>by rw[← h.len];exact Yfs ((hm v).2 hv),fun v hv c hc=>(hm c).1 (h.clo v hv c hc),h.top rfl,by simpa using h.par⟩
theorem ChainOk.tail:∀{l:List Nat},ChainOk E (b::l)→ChainOk E l∧(b=0∨∃p,b∈E p∧p∈l)∧(l=[]→b=0)
 |[],h=>⟨trivial,.inl h,fun _=>h⟩
 |_::_,h=>⟨h.2,.inr ⟨_,h.1,ZS⟩,fun e=>by cases e⟩
theorem DfsInv.pop(h:DfsInv E n seen out ((b,k)::r))(hk:k=(E b).length):DfsInv E n seen (out++[b]) r:=by
 obtain⟨c1,c2,c3⟩:=ChainOk.tail (E:=E) (b:=b) (l:=r.map (·.1)) (by simpa using h.chn);refine⟨h.len,by rw[h.cnt];simp;omega,by simpa using h.nod,fun v=>by rw[h.mem v];simp[or_assoc],?_,fun p hp=>h.pre p (by simp[hp]),fun p hp=>h.ple p (by simp[hp]),?_,c1,?_⟩
 · intro v hv c hc
   rcases List.mem_append.1 hv with hv|hv
   · exact h.clo v hv c hc
   · simp at hv
     subst hv;refine h.pre (v,k) ZS c ?_;simpa[hk]using hc
 · intro e
   subst e;simp[c3 rfl]
 · exact ParOk.pop c2 (by simpa using h.par)
theorem DfsInv.old(h:DfsInv E n seen out ((b,k)::r))(hk:k≠(E b).length)(hc:(E b).getD k 0=c)(hs:seen.getD c false=true):DfsInv E n seen out ((b,k+1)::r):=by
 have hle:=h.ple (b,k) ZS;have hlt:k<(E b).length:=by simp at hle;omega
 refine⟨h.len,by rw[h.cnt];simp,by simpa using h.nod,fun v=>by rw[h.mem v];simp,h.clo,fun p hp=>?_,fun p hp=>?_,(fun e=>by cases e),by simpa using h.chn,by simpa using h.par⟩
 · rcases List.mem_cons.1 hp with hp|hp
   · subst hp
     intro d hd;simp only[List.take_succ_eq_append_getElem hlt,List.mem_append,List.mem_singleton]at hd;rcases hd with hd|hd
     · exact h.pre (b,k) ZS d hd
     · subst hd
       have:(E b).getD k 0=(E b)[k]:=by simp[hlt]
       rw[← this,hc];exact hs
   · exact h.pre p (by simp[hp])
 · rcases List.mem_cons.1 hp with hp|hp
   · subst hp;exact hlt
   · exact h.ple p (by simp[hp])
theorem DfsInv.new(h:DfsInv E n seen out ((b,k)::r))(hk:k≠(E b).length)(hc:(E b).getD k 0=c)(hs:seen.getD c false=false)(hcn:c<n):DfsInv E n (seen.set c true) out ((c,0)::(b,k+1)::r):=by
 have hle:=h.ple (b,k) ZS;have hlt:k<(E b).length:=by simp at hle;omega
 have hget:(E b)[k]=c:=by
  have:(E b).getD k 0=(E b)[k]:=by simp[hlt]
  rw[← this,hc]
 have hup:∀v,seen.getD v false=true→(seen.set c true).getD v false=true:=fun v hv=>(getD_set_true (by rw[h.len];exact hcn)).2 (.inr hv)
 have hcc:(seen.set c true).getD c false=true:=(getD_set_true (by rw[h.len];exact hcn)).2 (.inl rfl);have hno:¬(c∈out∨c∈((b,k)::r).map (·.1)):=fun e=>by
  rw[(h.mem c).2 e]at hs;cases hs
 refine⟨by rw[List.length_set,h.len],by rw[count_set (by rw[h.len];exact hcn) hs,h.cnt];simp;omega,?_,fun v=>?_,fun v hv d hd=>hup d (h.clo v hv d hd),fun p hp=>?_,fun p hp=>?_,(fun e=>by cases e),?_,ParOk.mono (fun x hx=>by simp at hx ⊢;exact .inr hx) h.par⟩
 · have hnod:=h.nod
   simp only[List.map_cons,List.nodup_append,List.nodup_cons,List.mem_cons]at hnod hno ⊢;obtain⟨h1,⟨h2,h3⟩,h4⟩:=hnod;refine⟨h1,⟨fun e=>hno (.inr e),h2,h3⟩,fun x hx y hy=>?_⟩;rcases hy with hy|hy
   · intro e
     exact hno (.inl (by rw[← hy,← e];exact hx))
   · exact h4 x hx y hy
 · rw[getD_set_true (by rw[h.len];exact hcn),h.mem v]
   simp;constructor
   · rintro(e|e|e|e)
     · exact .inr (.inl e)
     · exact .inl e
     · exact .inr (.inr (.inl e))
     · exact .inr (.inr (.inr e))
   · rintro(e|e|e|e)
     · exact .inr (.inl e)
     · exact .inl e
     · exact .inr (.inr (.inl e))
     · exact .inr (.inr (.inr e))
 · rcases List.mem_cons.1 hp with hp|hp
   · subst hp;intro d hd;simp at hd
   · rcases List.mem_cons.1 hp with hp|hp
     · subst hp
       intro d hd;simp only[List.take_succ_eq_append_getElem hlt,List.mem_append,List.mem_singleton]at hd;rcases hd with hd|hd
       · exact hup d (h.pre (b,k) ZS d hd)
       · subst hd;rw[hget];exact hcc
     · intro d hd;exact hup d (h.pre p (by simp[hp]) d hd)
 · rcases List.mem_cons.1 hp with hp|hp
   · subst hp;exact Nz _
   · rcases List.mem_cons.1 hp with hp|hp
     · subst hp;exact hlt
     · exact h.ple p (by simp[hp])
 · exact⟨by rw[← hget];exact List.getElem_mem hlt,by simpa using h.chn⟩
theorem DfsInv.room{stk:List (Nat×Nat)}(h:DfsInv E n seen out stk):out.length+stk.length≤n:=by
 rw[← h.cnt,← h.len];exact List.count_le_length
theorem Yec(hE:∀v,(E v).length≤2)(hl:∀v,v<n→∀c∈E v,c<n):∀(f:Nat) (seen:List Bool) (out:List Nat) (stk:List (Nat×Nat)),DfsInv E n seen out stk→frW E stk+4*(n-(out.length+stk.length))≤f→DfsFin E n (dfs E f seen out stk)
 |0,seen,out,stk,h,hf=>by
  cases stk with
  |nil=>exact h.fin
  |cons p r=>obtain⟨b,k⟩:=p;simp[frW]at hf
 |f+1,seen,out,stk,h,hf=>by
  cases stk with
  |nil=>exact h.fin
  |cons p r=>
   obtain⟨b,k⟩:=p;have hb:b<n:=by
    rw[← h.len];exact Yfs ((h.mem b).2 (.inr ZS))
   by_cases hk:k=(E b).length
   · rw[Yg5 hk]
     refine Yec hE hl f _ _ _ (h.pop hk) ?_;simp only[frW,List.length_cons,List.length_append,List.length_nil]at hf ⊢;omega
   · have hle:=h.ple (b,k) ZS
     have hlt:k<(E b).length:=by simp at hle;omega
     obtain⟨c,hc⟩:∃c,(E b).getD k 0=c:=⟨_,rfl⟩;have hcn:c<n:=by
      refine hl b hb c ?_;have:(E b).getD k 0=(E b)[k]:=by simp[hlt]
      rw[← hc,this];exact List.getElem_mem hlt
     cases hs:seen.getD c false
     · rw[Yg7 hk hc hs]
       have h':=h.new hk hc hs hcn;refine Yec hE hl f _ _ _ h' ?_;have hr:=h'.room;have he:=hE c;have e1:(E (b,k).1).length=(E b).length:=rfl;simp only[frW,List.length_cons]at hf hr hle ⊢;omega
     · rw[Yg6 hk hc hs]
       refine Yec hE hl f _ _ _ (h.old hk hc hs) ?_;simp only[frW,List.length_cons]at hf ⊢;omega
theorem DfsInv.start(hn:0<n):DfsInv E n ((List.replicate n false).set 0 true) [] [(0,0)]:=by
 refine⟨ZS,?_,ZS,fun v=>?_,ZS,fun p hp=>by simp at hp;subst hp;simp,fun p hp=>by simp at hp;subst hp;simp,(fun e=>by cases e),rfl,trivial⟩
 · rw[count_set (by simpa using hn) (by cases n<;>simp[List.replicate_succ])]
   simp[List.count_replicate]
 rw[getD_set_true (by simpa using hn)];simp[List.getD,List.getElem?_replicate];intro h;split at h<;>simp at h
theorem DfsFin.start(hE:∀v,(E v).length≤2)(hl:∀v,v<n→∀c∈E v,c<n)(hn:0<n):DfsFin E n (dfs E (4*n) ((List.replicate n false).set 0 true) [] [(0,0)]):=by
 refine Yec hE hl _ _ _ _ (DfsInv.start hn) ?_;have:=hE 0;simp[frW];omega
end
end Go.Proofs.YtjlclkcmfokobaaGreatDoor
