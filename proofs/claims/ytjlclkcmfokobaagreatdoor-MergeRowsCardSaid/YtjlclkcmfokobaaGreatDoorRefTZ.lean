/- The walk of the reference's Typed, over a program that is shaped: it answers what the program's answers. -/
import Derived.Test.YtjlclkcmfokobaaGreatDoorRefRZ
import Derived.Deep.DeepCutAuto
namespace Go.Proofs.YtjlclkcmfokobaaGreatDoor
open Go.RowKit
set_option maxRecDepth 100000
theorem Ydg{w:World}(c:Int):Calls Tryz.prog 88 #[.int .u8 c] w fun e w'=>e=.returned (.int .i64 (Y3 c))∧w=w':=by
 by_cases h0:c=98
 · subst h0
   go_enter Tryz.func88,Tryz.ntmps88;go_wp2;go_ret;exact⟨rfl,rfl⟩
 · by_cases h1:c=97
   · subst h1
     go_enter Tryz.func88,Tryz.ntmps88;go_wp2;go_ret;exact⟨rfl,rfl⟩
   · rw[show Y3 c=0 by simp[Y3,h0,h1]]
     go_enter Tryz.func88,Tryz.ntmps88;go_wp2;go_ret;exact⟨rfl,rfl⟩
theorem Ynp(l:List UInt8)(i:Nat)(h:i<l.length)(w:World):(Instr.index 9 (.string (bs l)) (.int .i64 (i:Int))).run Tryz.prog w=.ok (.int .u8 ((l.getD i 0).toNat:Int)) w:=by
 have hs:(bs l).size=l.length:=by simp[bs,ByteArray.size]
 rw[run_index_string w 9 (bs l) .i64 i Tryz.underlying9,dif_pos ⟨ZO,by rw[hs];omega⟩];have:(bs l)[(i:Int).toNat]'(by rw[hs];omega)=l.getD i 0:=by
  simp only[Int.toNat_natCast,List.getD,List.getElem?_eq_getElem h,Option.getD_some];rfl
 rw[this]
def YaB(F:PFunc)(x:PInst):List Int:=if x.op=1 then [Yh F x.dst] else YM x.op
theorem Ygh:(YM 1).length=1:=by decide +kernel
theorem Ynq{F:PFunc}{x:PInst}(h:x.args.length=(YM x.op).length):x.args.length=(YaB F x).length:=by
 unfold YaB;split
 · rename_i h1
   rw[h,h1,Ygh];rfl
 · exact h
theorem Ynr{F:PFunc}{a t:Int}:YV F [a] [t]=(Yh F a==t):=Bool.and_true _
theorem Yns{F:PFunc}{x:PInst}(h:x.args.length=(YM x.op).length):YE F x=(YV F x.args (YaB F x)&&(decide (x.op=1)||!Yaf x.op||Yh F x.dst==YbB x.op)):=by
 unfold YE YaB
 by_cases h1:x.op=1
 · rw[if_pos h1,if_pos h1,decide_eq_true h1]
   rw[h1,Ygh]at h;obtain⟨a,ha⟩:=List.length_eq_one_iff.1 h;rw[ha,show ith [a] 0=a from rfl,Ynr,Bool.true_or,Bool.true_or,Bool.and_true,Bool.beq_comm]
 · rw[if_neg h1,if_neg h1,decide_eq_false h1]
   rfl
set_option maxHeartbeats 8000000 in
theorem Ynt{W w:World}{fv:Value}{F:PFunc}(hF:FnV W W.heap.size fv F)(hW:Below W.heap.size W w)(hSh:Yj F=true) :
 Calls Tryz.prog 44 #[fv] w fun e w'=>e=.returned (.bool (F.blocks.all (YK F)))∧Below w.heap.size w w':=by
 obtain⟨A0,c0,A1,c1,A2,c2,rfl,l0,l1,l2,-,-,-,r0,r1,r2⟩:=id hF.open_;unfold Len at *;have hWs:=hW.size;have HSH:=Lh hSh;clear hSh;have hb0:=(Br w.heap.size w).alloc (Nr _) (.cells #[.slice A0 F.vars.length c0,.slice A1 F.params.length c1,.slice A2 F.blocks.length c2] 26);go_enter Tryz.func44,Tryz.ntmps44;go_wp2
 go_loopw[18] (fun i wr=>∃n:Nat,i=.int .i64 n∧n≤F.blocks.length∧Below (w.heap.size+1) (w.alloc (.cells #[.slice A0 F.vars.length c0,.slice A1 F.params.length c1,.slice A2 F.blocks.length c2] 26)) wr∧Hid (F.blocks.all (YK F)=(F.blocks.drop n).all (YK F))) (fun i _=>F.blocks.length-(intOf i).toNat)
 case atStart=>exact⟨0,rfl,Nz _,by simpa using Br _ _,by simp[Hid]⟩
 case round=>as_aux_lemma=>
  obtain⟨n,rfl,hn,hb,hf⟩:=hrel;have hB:=hb0.trans (hb.mono (Nat.le_succ _));have hWr:Below W.heap.size W wr:=hW.trans (hB.mono hWs);obtain⟨hq,hq0,hq1,hq2⟩:=Yn hb
  by_cases hlt:n<F.blocks.length
  · obtain⟨bb,off,A3,c3,A4,c4,rfl,hbb,hnz,hy0,hy1,hy2,hy3,hy4,hy5,hy6,l3,l4,k3,k4,r3,r4⟩:=r2.blk hWr hlt
    have hd:=Lh (Yct hlt);unfold Len at *;obtain⟨HP,HI,HT⟩:=Lh (Ybd HSH.out hlt) |>.out;replace HP:=Lh HP;replace HI:=Lh HI;replace HT:=Lh HT;have failB:YK F (F.blk n)=false→Hid (F.blocks.all (YK F)=false):=fun h=>by rw[Hid,hf.out,hd.out,List.all_cons,h];rfl
    obtain⟨wq,rfl⟩:∃wq:World,wq=wr:=⟨_,rfl⟩;go_wp2
    go_loopw[25] (fun i wr=>∃j:Nat,i=.int .i64 j∧j≤(F.blk n).phis.length∧Below (wq.heap.size+1) (wq.alloc (.cells #[.string (F.blk n).name,.slice A3 (F.blk n).phis.length c3,.slice A4 (F.blk n).insts.length c4,.int .i64 (F.blk n).term.kind,.int .i64 (F.blk n).term.var,.int .i64 (F.blk n).term.t0,.int .i64 (F.blk n).term.t1] 41)) wr∧Hid ((F.blk n).phis.all (Yab F)=((F.blk n).phis.drop j).all (Yab F))) (fun i _=>(F.blk n).phis.length-(intOf i).toNat)
    case atStart=>exact⟨0,rfl,Nz _,by simpa using Br _ _,by simp[Hid]⟩
    case round=>as_aux_lemma=>
     obtain⟨j,rfl,hj,hbj,hfj⟩:=hrel;obtain⟨e8,ex⟩:=Ycx hbj;have hBj:Below wq.heap.size wq wr:=((Br _ _).alloc (Nr _) _).trans (hbj.mono (Nat.le_succ _));have hWj:=hWr.trans (hBj.mono hWr.size)
     by_cases hjt:j<(F.blk n).phis.length
     · obtain⟨b5,off5,A5,c5,A6,c6,rfl,hbb5,hx0,hx1,hx2,l5,l6,k5,k6,r5,r6⟩:=r3.phi hWj hjt
       have hdj:=Lh (Yds hjt);have hpp:=Yfq (HP.out _ (Ybo hjt));have hva:=Lh hpp.1;have hvd:=Lh hpp.2;clear hpp ex;unfold Len at *;generalize (F.blk n).phi j=x at *;have failP:Yab F x=false→Hid (F.blocks.all (YK F)=false):=fun h=>failB (by rw[YK,hfj.out,hdj.out,List.all_cons,h];rfl)
       obtain⟨ws,rfl⟩:∃ws:World,ws=wr:=⟨_,rfl⟩;go_wp2
       go_loopw[32] (fun i wr=>∃m:Nat,i=.int .i64 m∧m≤x.args.length∧Below (ws.heap.size+1) (ws.alloc (.cells #[.int .i64 x.dst,.slice A5 x.args.length c5,.slice A6 x.froms.length c6] 76)) wr∧Hid (Yab F x=(x.args.drop m).all fun v=>Yh F v==Yh F x.dst)) (fun i _=>x.args.length-(intOf i).toNat)
       case atStart=>exact⟨0,rfl,Nz _,by simpa using Br _ _,by simp[Hid,Yab]⟩
       case round=>as_aux_lemma=>
        obtain⟨m,rfl,hm,hbm,hfm⟩:=hrel;obtain⟨p8,px⟩:=Ycx hbm;have p0:wr.cell? ⟨ws.heap.size,0,none⟩=some (.int .i64 x.dst):=px 0;have hBm:Below wq.heap.size wq wr:=hBj.trans ((((Br _ _).alloc (Nr _) _).trans (hbm.mono (Nat.le_succ _))).mono hBj.size);have hWm:=hWr.trans (hBm.mono hWr.size);have f0:=(hBm.cell (p:=⟨w.heap.size,0,none⟩) hq).trans hq0;have f1:=(hBm.cell (p:=⟨w.heap.size,1,none⟩) hq).trans hq1;have f2:=(hBm.cell (p:=⟨w.heap.size,2,none⟩) hq).trans hq2;have f8:=Nt hq hBm.size;clear px
        by_cases hmt:m<x.args.length
        · obtain⟨b7,off7,rfl,hbb7,hm0⟩:=r5.int hWm hmt
          have hdm:=Lh (YaI hmt);have h1:=fun(w:World) (h:Below W.heap.size W w)=>Ycv hF h (List.all_eq_true.1 hva.out _ (Ycf hmt))
          have h2:=fun(w:World) (h:Below W.heap.size W w)=>Ycv hF h hvd.out
          by_cases hty:Yh F (ith x.args m)=Yh F x.dst
          · have hty':(Yh F (ith x.args m) !=Yh F x.dst)=false:=by simpa using hty
            have HF:=Lh (show Yab F x=((x.args.drop (m+1)).all fun v=>Yh F v==Yh F x.dst) by rw[hfm.out,hdm.out,List.all_cons,hty];simp);clear hty;go_wp2_with fail;obtain⟨S0,hS0⟩:∃S0:World→Prop,S0=fun w'=>w'.cell? ⟨w.heap.size,0,none⟩=some (.slice A0 F.vars.length c0)∧w'.cell? ⟨w.heap.size,1,none⟩=some (.slice A1 F.params.length c1)∧w'.cell? ⟨w.heap.size,2,none⟩=some (.slice (some ⟨bb,off,none⟩) F.blocks.length c2)∧w'.cell? ⟨ws.heap.size,0,none⟩=some (.int .i64 x.dst)∧Below wr.heap.size wr w'∧w.heap.size<w'.heap.size∧ws.heap.size<w'.heap.size:=⟨_,rfl⟩
            have HS0:=Lh hS0;clear hS0;have k0:=fun xw=>(WS.at HS0 xw).1
            have k1:=fun xw=>(WS.at HS0 xw).2.1
            have k2:=fun xw=>(WS.at HS0 xw).2.2.1
            have k3:=fun xw=>(WS.at HS0 xw).2.2.2.1
            have k4:=fun xw=>(WS.at HS0 xw).2.2.2.2.1
            have k5:=fun xw=>(WS.at HS0 xw).2.2.2.2.2.1
            have k6:=fun xw=>(WS.at HS0 xw).2.2.2.2.2.2
            refine Yz (S:=S0) [0,1,3,4,5,2,6,7] ZK ZK (fun _ _ _ _ _ h=>h) ?hS (fun hSc=>?_)
            case hS=>
             rw[HS0.out];exact⟨ZI,ZI,ZI,ZI,BL,ZJ,ZJ⟩
            have hne0:Nonempty (WS S0):=⟨⟨_,hSc⟩⟩;simp only[List.map_cons,List.map_nil,Ld,Le]
            repeat
             first
             |((with_reducible refine YA ?_ ?_);exact rfl;go_big_quiet_step (fail);(try with_reducible refine wpQuiet_nil ?_);(try dsimp only))
             |((with_reducible refine YF ?_ ?_ (fun K hK=>?_))
               exact rfl;exact rfl;go_simp;(try go_wp2_with(first|(go_at_call 86;first|(with_reducible refine(h1 _ (hWm.trans ((k4 ⟨_,hSc⟩).mono hWm.size))).mono ?_;(rintro e w9 ⟨rfl,hb9⟩;obtain⟨hc9,hf9⟩:=Ya hb9;have hz9:=hb9.size;try simp at hz9;try have hy9:=Nl hz9;try have hx9:=Ns hy9;try have hw9:=Ns hx9))|(with_reducible refine(h2 _ (hWm.trans ((k4 ⟨_,hSc⟩).mono hWm.size))).mono ?_;(rintro e w9 ⟨rfl,hb9⟩;obtain⟨hc9,hf9⟩:=Ya hb9;have hz9:=hb9.size;try simp at hz9;try have hy9:=Nl hz9;try have hx9:=Ns hy9;try have hw9:=Ns hx9)))));refine hK.out _ _ ?hS (fun hSc=>?_)
               case hS=>
                first
                |exact hSc
                |(rw[HS0.out]at hSc ⊢;obtain⟨p0,p1,p2,p3,p4,p5,p6⟩:=hSc;exact⟨ZC0,ZC1,ZC2,ZC3,(by first|exact p4.trans (hb9.mono (by have:=p4.size;first|omega|(simp at this ⊢;omega)))|exact BL),(by first|exact Nt p5 hb9.size|exact ZT),ZT6⟩)
               clear hK K)
            refine YB ?_;rw[HS0.out]at hSc;obtain⟨p0,p1,p2,p3,p4,p5,p6⟩:=hSc;clear hne0 HS0 k0 k1 k2 k3 k4 k5 k6;go_wp2;go_roundw
            case rel=>exact⟨m+1,ZN,ZO,hbm.trans (p4.mono (by simpa using hbm.size)),HF⟩
            case measure=>simp[intOf];omega
          · have hty':(Yh F (ith x.args m) !=Yh F x.dst)=true:=by simpa using hty
            have HF:=failP (by rw[hfm.out,hdm.out,List.all_cons,beq_eq_false_iff_ne.2 hty];rfl);clear hty failP failB;go_wp2_with fail;obtain⟨S0,hS0⟩:∃S0:World→Prop,S0=fun w'=>w'.cell? ⟨w.heap.size,0,none⟩=some (.slice A0 F.vars.length c0)∧w'.cell? ⟨w.heap.size,1,none⟩=some (.slice A1 F.params.length c1)∧w'.cell? ⟨w.heap.size,2,none⟩=some (.slice (some ⟨bb,off,none⟩) F.blocks.length c2)∧w'.cell? ⟨ws.heap.size,0,none⟩=some (.int .i64 x.dst)∧Below wr.heap.size wr w'∧w.heap.size<w'.heap.size∧ws.heap.size<w'.heap.size:=⟨_,rfl⟩
            have HS0:=Lh hS0;clear hS0;have k0:=fun xw=>(WS.at HS0 xw).1
            have k1:=fun xw=>(WS.at HS0 xw).2.1
            have k2:=fun xw=>(WS.at HS0 xw).2.2.1
            have k3:=fun xw=>(WS.at HS0 xw).2.2.2.1
            have k4:=fun xw=>(WS.at HS0 xw).2.2.2.2.1
            have k5:=fun xw=>(WS.at HS0 xw).2.2.2.2.2.1
            have k6:=fun xw=>(WS.at HS0 xw).2.2.2.2.2.2
            refine Yz (S:=S0) [0,1,3,4,5,2,6,7] ZK ZK (fun _ _ _ _ _ h=>h) ?hS (fun hSc=>?_)
            case hS=>
             rw[HS0.out];exact⟨ZI,ZI,ZI,ZI,BL,ZJ,ZJ⟩
            have hne0:Nonempty (WS S0):=⟨⟨_,hSc⟩⟩;simp only[List.map_cons,List.map_nil,Ld,Le]
            repeat
             first
             |((with_reducible refine YA ?_ ?_);exact rfl;go_big_quiet_step (fail);(try with_reducible refine wpQuiet_nil ?_);(try dsimp only))
             |((with_reducible refine YF ?_ ?_ (fun K hK=>?_))
               exact rfl;exact rfl;go_simp;(try go_wp2_with(first|(go_at_call 86;first|(with_reducible refine(h1 _ (hWm.trans ((k4 ⟨_,hSc⟩).mono hWm.size))).mono ?_;(rintro e w9 ⟨rfl,hb9⟩;obtain⟨hc9,hf9⟩:=Ya hb9;have hz9:=hb9.size;try simp at hz9;try have hy9:=Nl hz9;try have hx9:=Ns hy9;try have hw9:=Ns hx9))|(with_reducible refine(h2 _ (hWm.trans ((k4 ⟨_,hSc⟩).mono hWm.size))).mono ?_;(rintro e w9 ⟨rfl,hb9⟩;obtain⟨hc9,hf9⟩:=Ya hb9;have hz9:=hb9.size;try simp at hz9;try have hy9:=Nl hz9;try have hx9:=Ns hy9;try have hw9:=Ns hx9)))));refine hK.out _ _ ?hS (fun hSc=>?_)
               case hS=>
                first
                |exact hSc
                |(rw[HS0.out]at hSc ⊢;obtain⟨p0,p1,p2,p3,p4,p5,p6⟩:=hSc;exact⟨ZC0,ZC1,ZC2,ZC3,(by first|exact p4.trans (hb9.mono (by have:=p4.size;first|omega|(simp at this ⊢;omega)))|exact BL),(by first|exact Nt p5 hb9.size|exact ZT),ZT6⟩)
               clear hK K)
            refine YB ?_;rw[HS0.out]at hSc;obtain⟨p0,p1,p2,p3,p4,p5,p6⟩:=hSc;clear hne0 HS0 k0 k1 k2 k3 k4 k5 k6;go_wp2;go_ret;exact⟨Yb HF.out.symm,hB.trans ((hBm.trans (p4.mono hBm.size)).mono hB.size)⟩
        · have HF:=Lh (show(F.blk n).phis.all (Yab F)=((F.blk n).phis.drop (j+1)).all (Yab F) by
           rw[hfj.out,hdj.out,List.all_cons,hfm.out,List.drop_eq_nil_of_le ZO];rfl)
          clear failP failB;go_wp2;go_roundw
          case rel=>exact⟨j+1,ZN,ZO,hbj.trans ((((Br _ _).alloc (Nr _) _).trans (hbm.mono (Nat.le_succ _))).mono (by simpa using hbj.size)),HF⟩
          case measure=>simp[intOf];omega
     · have hfp:=Lh (show(F.blk n).phis.all (Yab F)=true by rw[hfj.out,List.drop_eq_nil_of_le ZO];rfl)
       have e2:wr.cell? ⟨wq.heap.size,2,none⟩=some (.slice A4 (F.blk n).insts.length c4):=ex 2;clear hfj ex;obtain⟨wp,rfl⟩:∃wp:World,wp=wr:=⟨_,rfl⟩;go_wp2
       go_loopw[49] (fun i wr=>∃j:Nat,i=.int .i64 j∧j≤(F.blk n).insts.length∧Below (wq.heap.size+1) (wq.alloc (.cells #[.string (F.blk n).name,.slice A3 (F.blk n).phis.length c3,.slice A4 (F.blk n).insts.length c4,.int .i64 (F.blk n).term.kind,.int .i64 (F.blk n).term.var,.int .i64 (F.blk n).term.t0,.int .i64 (F.blk n).term.t1] 41)) wr∧Hid ((F.blk n).insts.all (YE F)=((F.blk n).insts.drop j).all (YE F))) (fun i _=>(F.blk n).insts.length-(intOf i).toNat)
       case atStart=>exact⟨0,rfl,Nz _,hbj,by simp[Hid]⟩
       case round=>as_aux_lemma=>
        clear e2 hBj hWj hj hjt;obtain⟨j,rfl,hj,hbj,hfj⟩:=hrel;obtain⟨e8,ex⟩:=Ycx hbj;have hBj:Below wq.heap.size wq wr:=((Br _ _).alloc (Nr _) _).trans (hbj.mono (Nat.le_succ _));have hWj:=hWr.trans (hBj.mono hWr.size)
        by_cases hjt:j<(F.blk n).insts.length
        · obtain⟨b5,off5,A5,c5,rfl,hbb5,hx0,hx1,hx2,hx3,l5,k5,r5⟩:=r4.inst hWj hjt
          have hdj:=Lh (YcX hjt);have hpp:=Yg2 (HI.out _ (Yar hjt));have hop:Yaq ((F.blk n).inst j).op=true:=by
           have:=HI.out _ (Yar hjt);unfold Ym at this;simp only[Bool.and_eq_true]at this;exact this.1.1.1.1
          unfold Len at *;generalize (F.blk n).inst j=x at *;have hva:=Lh hpp.1;have hvl:=Lh hpp.2.1;have hvd:=Lh hpp.2.2;have hop2:=YQ hop;have hxl:x.args.length=(YaB F x).length:=Ynq hvl.out;have hxL:=Lh hxl;have hparts:=Lh (Yns (F:=F) hvl.out);have failI:YE F x=false→Hid (F.blocks.all (YK F)=false):=fun h=>failB (by rw[YK,hfj.out,hdj.out,List.all_cons,h];simp)
          clear hpp ex hop hxl failB;obtain⟨o,ho⟩:∃o:Nat,x.op=o:=⟨x.op.toNat,ZO⟩;have ho27:o<27:=by omega
          have ho28:(o:Int)<27:=by omega
          obtain⟨⟨K1,K2,-,-,K5⟩,K6,K7⟩:=Yhj o ho27;have HOp:=Lh ho;rw[ho]at hx0;clear ho hop2;obtain⟨ws,rfl⟩:∃ws:World,ws=wr:=⟨_,rfl⟩
          go_upto_region 17 with fail
          go_cut[11] (fun s11 wx=>∃g:Nat,s11=.pointer (some ⟨g,0,none⟩)∧g<wx.heap.size∧wx.cell? ⟨g,0,none⟩=some (.string (bs (kindAt o).1))∧wx.cell? ⟨g,1,none⟩=some (.string (bs (kindAt o).2.1))∧wx.cell? ⟨g,2,none⟩=some (.string (bs (kindAt o).2.2))∧Below (ws.heap.size+1) (ws.alloc (.cells #[.int .i64 (o:Int),.int .i64 x.dst,.slice A5 x.args.length c5,.int .i64 x.num] 44)) wx)
          case first=>as_aux_lemma=>
           obtain⟨S0,hS0⟩:∃S0:World→Prop,S0=fun w'=>w'.cell? ⟨ws.heap.size,0,none⟩=some (.int .i64 (o:Int))∧Below (ws.heap.size+1) (ws.alloc (.cells #[.int .i64 (o:Int),.int .i64 x.dst,.slice A5 x.args.length c5,.int .i64 x.num] 44)) w'∧ws.heap.size<w'.heap.size:=⟨_,rfl⟩
           have HS0:=Lh hS0;clear hS0;have k0:=fun xw=>(WS.at HS0 xw).1
           have k1:=fun xw=>(WS.at HS0 xw).2.1
           have k2:=fun xw=>(WS.at HS0 xw).2.2
           refine Yhc (S:=S0) ZK ?hS (fun hSc=>?_)
           case hS=>
            rw[HS0.out];exact⟨ZI,BL,ZJ⟩
           have hne0:Nonempty (WS S0):=⟨⟨_,hSc⟩⟩;refine YbO [(1,false),(2,false)] 5 rfl ZK (fun _ _ _ _ _ h=>h) hSc ?_
           all_goals
            (try simp only[List.map_cons,List.map_nil,Ld,Le])
            repeat
             first
             |((with_reducible refine YbP ?_ ?_);exact rfl;dsimp only;go_big_quiet_step (fail);(try with_reducible refine wpQuiet_nil ?_);(try dsimp only))
             |((with_reducible refine YbQ ?_ ?_ (fun K hK=>?_))
               exact rfl;exact rfl;dsimp only;go_simp;(try go_wp2_with(go_at_call 87;refine Ybq.mono ?_;rintro e w9 ⟨rfl,hR9,hz9,hb9⟩;obtain⟨hc9,hf9⟩:=Ya hb9;obtain⟨hr0,hr1,hr2⟩:=hR9 o ho27;try simp at hz9;try simp only[heap_drew,World.size_alloc]at hr0 hr1 hr2));refine hK.out _ _ ?hS (fun hSc=>?_)
               case hS=>
                first
                |exact hSc
                |(rw[HS0.out]at hSc ⊢;obtain⟨p0,p1,p2⟩:=hSc;exact⟨ZC0,ZL1,ZT2⟩)
                |(rw[HS0.out]at hSc ⊢;obtain⟨p0,p1,p2⟩:=hSc;exact⟨ZC,BL,ZT⟩)
               clear hK K)
            (try(refine YbR ?_;intro hSc))
           refine Yee 0 5 4 rfl ZK hSc ?_ ?_
           all_goals
            (try simp only[Ld,Le])
            repeat
             first
             |((with_reducible refine YbP ?_ ?_);exact rfl;dsimp only;go_big_quiet_step (fail);(try with_reducible refine wpQuiet_nil ?_);(try dsimp only))
             |((with_reducible refine YbQ ?_ ?_ (fun K hK=>?_))
               exact rfl;exact rfl;dsimp only;go_simp;(try go_wp2_with(go_at_call 87;refine Ybq.mono ?_;rintro e w9 ⟨rfl,hR9,hz9,hb9⟩;obtain⟨hc9,hf9⟩:=Ya hb9;obtain⟨hr0,hr1,hr2⟩:=hR9 o ho27;try simp at hz9;try simp only[heap_drew,World.size_alloc]at hr0 hr1 hr2));refine hK.out _ _ ?hS (fun hSc=>?_)
               case hS=>
                first
                |exact hSc
                |(rw[HS0.out]at hSc ⊢;obtain⟨p0,p1,p2⟩:=hSc;exact⟨ZC0,ZL1,ZT2⟩)
                |(rw[HS0.out]at hSc ⊢;obtain⟨p0,p1,p2⟩:=hSc;exact⟨ZC,BL,ZT⟩)
               clear hK K)
            (try(refine YbR ?_;intro hSc))
           refine YbO [(3,false)] 3 rfl ZK (fun _ _ _ _ _ h=>h) hSc ?_
           rotate_left
           refine YbO [(0,true),(3,false),(4,true),(6,true)] 0 rfl ZK (fun _ _ _ _ _ h=>h) hSc ?_
           rotate_left
           all_goals
            (try simp only[List.map_cons,List.map_nil,Ld,Le])
            repeat
             first
             |((with_reducible refine YbP ?_ ?_);exact rfl;dsimp only;go_big_quiet_step (fail);(try with_reducible refine wpQuiet_nil ?_);(try dsimp only))
             |((with_reducible refine YbQ ?_ ?_ (fun K hK=>?_))
               exact rfl;exact rfl;dsimp only;go_simp;(try go_wp2_with(go_at_call 87;refine Ybq.mono ?_;rintro e w9 ⟨rfl,hR9,hz9,hb9⟩;obtain⟨hc9,hf9⟩:=Ya hb9;obtain⟨hr0,hr1,hr2⟩:=hR9 o ho27;try simp at hz9;try simp only[heap_drew,World.size_alloc]at hr0 hr1 hr2));refine hK.out _ _ ?hS (fun hSc=>?_)
               case hS=>
                first
                |exact hSc
                |(rw[HS0.out]at hSc ⊢;obtain⟨p0,p1,p2⟩:=hSc;exact⟨ZC0,ZL1,ZT2⟩)
                |(rw[HS0.out]at hSc ⊢;obtain⟨p0,p1,p2⟩:=hSc;exact⟨ZC,BL,ZT⟩)
               clear hK K)
            (try(refine YbR ?_;intro hSc))
           refine Yee 4 5 2 rfl ZK hSc ?_ ?_
           rotate_left 2
           rotate_left
           all_goals
            (try simp only[Ld,Le])
            repeat
             first
             |((with_reducible refine YbP ?_ ?_);exact rfl;dsimp only;go_big_quiet_step (fail);(try with_reducible refine wpQuiet_nil ?_);(try dsimp only))
             |((with_reducible refine YbQ ?_ ?_ (fun K hK=>?_))
               exact rfl;exact rfl;dsimp only;go_simp;(try go_wp2_with(go_at_call 87;refine Ybq.mono ?_;rintro e w9 ⟨rfl,hR9,hz9,hb9⟩;obtain⟨hc9,hf9⟩:=Ya hb9;obtain⟨hr0,hr1,hr2⟩:=hR9 o ho27;try simp at hz9;try simp only[heap_drew,World.size_alloc]at hr0 hr1 hr2));refine hK.out _ _ ?hS (fun hSc=>?_)
               case hS=>
                first
                |exact hSc
                |(rw[HS0.out]at hSc ⊢;obtain⟨p0,p1,p2⟩:=hSc;exact⟨ZC0,ZL1,ZT2⟩)
                |(rw[HS0.out]at hSc ⊢;obtain⟨p0,p1,p2⟩:=hSc;exact⟨ZC,BL,ZT⟩)
               clear hK K)
            (try(refine YbR ?_;intro hSc))
           refine YbO [(5,true),(6,true)] 0 rfl ZK (fun _ _ _ _ _ h=>h) hSc ?_
           rotate_left
           refine YbO [(4,true),(6,true)] 0 rfl ZK (fun _ _ _ _ _ h=>h) hSc ?_
           rotate_left
           rotate_left
           all_goals
            (try simp only[List.map_cons,List.map_nil,Ld,Le])
            repeat
             first
             |((with_reducible refine YbP ?_ ?_);exact rfl;dsimp only;go_big_quiet_step (fail);(try with_reducible refine wpQuiet_nil ?_);(try dsimp only))
             |((with_reducible refine YbQ ?_ ?_ (fun K hK=>?_))
               exact rfl;exact rfl;dsimp only;go_simp;(try go_wp2_with(go_at_call 87;refine Ybq.mono ?_;rintro e w9 ⟨rfl,hR9,hz9,hb9⟩;obtain⟨hc9,hf9⟩:=Ya hb9;obtain⟨hr0,hr1,hr2⟩:=hR9 o ho27;try simp at hz9;try simp only[heap_drew,World.size_alloc]at hr0 hr1 hr2));refine hK.out _ _ ?hS (fun hSc=>?_)
               case hS=>
                first
                |exact hSc
                |(rw[HS0.out]at hSc ⊢;obtain⟨p0,p1,p2⟩:=hSc;exact⟨ZC0,ZL1,ZT2⟩)
                |(rw[HS0.out]at hSc ⊢;obtain⟨p0,p1,p2⟩:=hSc;exact⟨ZC,BL,ZT⟩)
               clear hK K)
            (try(refine YbR ?_;intro hSc))
           all_goals
            refine Yhd ZK ?_;rw[HS0.out]at hSc;obtain⟨p0,p1,p2⟩:=hSc;clear hne0 HS0 k0 k1 k2
           · go_wp2_with fail
             go_meet
             refine⟨_,rfl,?_,?_,?_,?_,p1⟩
             · exact ZT
             · exact ZS
             · exact ZS
             · exact ZS
           · go_wp2_with fail
             go_meet
             refine⟨_,rfl,?_,?_,?_,?_,p1⟩
             · exact ZT
             · exact ZS
             · exact ZS
             · exact ZS
           · go_wp2_with fail
             go_meet
             have z0:∀j,j<3→(w9.cell? ⟨ws.heap.size+1,j,none⟩).isSome=true:=by intro j hj;rw[hc9 _ _ ZS];rcases j with _|_|_|j<;>first|(simp;done)|omega
             refine⟨_,rfl,?_,?_,?_,?_,p1⟩
             · exact ZT
             · exact(set3 z0).1
             · exact(set3 z0).2.1
             · exact(set3 z0).2.2
          case rest=>as_aux_lemma=>
           obtain⟨g,rfl,hg,g0,g1,g2,hbc⟩:=hcut;obtain⟨i8,ix⟩:=Ycx hbc;have i1:wc.cell? ⟨ws.heap.size,1,none⟩=some (.int .i64 x.dst):=ix 1;have i2:wc.cell? ⟨ws.heap.size,2,none⟩=some (.slice A5 x.args.length c5):=ix 2;have hBc:Below ws.heap.size ws wc:=((Br _ _).alloc (Nr _) _).trans (hbc.mono (Nat.le_succ _));have bl:∀l:List UInt8,(bs l).toList=l:=fun l=>by simp[bs,Lib.toList_data]
           have K2':(bs (kindAt o).2.2).toList.isEmpty=!Yaf x.op:=by
            rw[bl,HOp.out,Bool.eq_iff_iff];simp only[List.isEmpty_iff,Bool.not_eq_true'];exact K2
           have K5':((bs (kindAt o).1).toList==[99,111,112,121])=decide (x.op=1):=by
            rw[bl,HOp.out,Bool.eq_iff_iff];simp only[beq_iff_eq,decide_eq_true_eq];exact K5
           have KL:(kindAt o).2.1.length=x.args.length:=by rw[hvl.out,HOp.out,← K1]
           have ixT:=fun i (h:i<(kindAt o).2.1.length)=>Ynp (kindAt o).2.1 i h
           have ixM:=fun(h:0<(kindAt o).2.2.length)=>Ylu (kindAt o).2.2 0 h
           rw[← HOp.out]at K6 K7;have K7':Yaf x.op=true→0<(kindAt o).2.2.length∧Y3 (((kindAt o).2.2.getD 0 0).toNat:Int)=YbB x.op:=fun h=>by
            have hne:(kindAt o).2.2≠[]:=fun e=>by
             have:=K2.1 e;rw[← HOp.out,h]at this;cases this
            exact⟨List.length_pos_iff.2 hne,K7 hne⟩
           clear ix K1 K2 K5 K7 bl;generalize bs (kindAt o).1=sW at *;generalize bs (kindAt o).2.1=sT at *;generalize bs (kindAt o).2.2=sM at *;generalize (kindAt o).2.1=lT at *;generalize (kindAt o).2.2=lM at *;replace K2':=Lh K2';replace K5':=Lh K5';replace K7':=Lh K7';replace K6:=Lh K6;replace KL:=Lh KL;replace ixT:=Lh ixT;replace ixM:=Lh ixM;go_wp2
           go_loopw[61] (fun i wr=>∃m:Nat,i=.int .i64 m∧m≤x.args.length∧Below wc.heap.size wc wr∧Hid (YV F x.args (YaB F x)=YV F (x.args.drop m) ((YaB F x).drop m))) (fun i _=>x.args.length-(intOf i).toNat)
           case atStart=>exact⟨0,rfl,Nz _,Br _ _,rfl⟩
           case round=>as_aux_lemma=>
            obtain⟨m,rfl,hm,hb5,hfm⟩:=hrel;have hBcx:Below ws.heap.size ws wr:=hBc.trans (hb5.mono hBc.size);have hB5:Below wq.heap.size wq wr:=hBj.trans (hBcx.mono hBj.size);have hWr5:=hWr.trans (hB5.mono hWr.size);have f0:=(hB5.cell (p:=⟨w.heap.size,0,none⟩) hq).trans hq0;have f1:=(hB5.cell (p:=⟨w.heap.size,1,none⟩) hq).trans hq1;have f2:=(hB5.cell (p:=⟨w.heap.size,2,none⟩) hq).trans hq2;have f8:=Nt hq hB5.size;have j1:=(hb5.cell (p:=⟨ws.heap.size,1,none⟩) i8).trans i1;have j2:=(hb5.cell (p:=⟨ws.heap.size,2,none⟩) i8).trans i2;have j8:=Nt i8 hb5.size;have d0:=(hb5.cell (p:=⟨g,0,none⟩) hg).trans g0;have d1:=(hb5.cell (p:=⟨g,1,none⟩) hg).trans g1;have d2:=(hb5.cell (p:=⟨g,2,none⟩) hg).trans g2;have d8:=Nt hg hb5.size;clear hq0 hq1 hq2 i1 i2 g0 g1 g2
            by_cases hmt:m<x.args.length
            · obtain⟨b7,off7,rfl,hbb7,hm0⟩:=r5.int hWr5 hmt
              have h1:=fun(w:World) (h:Below W.heap.size W w)=>Ycv hF h (List.all_eq_true.1 hva.out _ (Ycf hmt))
              have hst:=Lh (YgZ (F:=F) (l:=x.args) (m:=YaB F x) (n:=m) hmt (by rw[← hxL.out];exact hmt));have hit:=fun w=>ixT.out m (by rw[KL.out];exact hmt) w
              have hcc:=K6.out m (by rw[KL.out];exact hmt);generalize ((lT.getD m 0).toNat:Int)=cc at *
              by_cases hcp:x.op=1
              · have HW:=Lh (show ith (YaB F x) m=Yh F x.dst by
                 have h0:m=0:=by have:=hvl.out;rw[hcp,Ygh]at this;omega
                 rw[h0,YaB,if_pos hcp];rfl)
                have hk:(sW.toList==[99,111,112,121])=true:=by rw[K5'.out,decide_eq_true hcp]
                have h2:=fun(w:World) (h:Below W.heap.size W w)=>Ycv hF h (hvd.out (by rw[hcp];decide +kernel))
                clear hcp hcc
                by_cases hty:Yh F (ith x.args m)=Yh F x.dst
                · have hty':(Yh F (ith x.args m) !=Yh F x.dst)=false:=by simpa using hty
                  have HF:=Lh (show YV F x.args (YaB F x)=YV F (x.args.drop (m+1)) ((YaB F x).drop (m+1)) by rw[hfm.out,hst.out,HW.out,hty];simp);clear hty failI;go_wp2_with(first|(go_at_call 88;refine(Ydg _).mono ?_;rintro e w7 ⟨rfl,rfl⟩)|(go_at_call 86;refine(h2 _ (hWr5.trans BL)).mono ?_;(rintro e w6 ⟨rfl,hb6⟩;obtain⟨hc6,hf6⟩:=Ya hb6;have hz6:=hb6.size;try simp at hz6;try have hy6:=Nl hz6;try have hx6:=Ns hy6;try have hw6:=Ns hx6)));obtain⟨S0,hS0⟩:∃S0:World→Prop,S0=fun w'=>w'.cell? ⟨w.heap.size,0,none⟩=some (.slice A0 F.vars.length c0)∧w'.cell? ⟨w.heap.size,1,none⟩=some (.slice A1 F.params.length c1)∧w'.cell? ⟨w.heap.size,2,none⟩=some (.slice (some ⟨bb,off,none⟩) F.blocks.length c2)∧w'.cell? ⟨ws.heap.size,2,none⟩=some (.slice (some ⟨b7,off7,none⟩) x.args.length c5)∧w'.cell? ⟨b7,off7+m,none⟩=some (.int .i64 (ith x.args m))∧Below wr.heap.size wr w'∧w.heap.size<w'.heap.size∧ws.heap.size<w'.heap.size∧b7<w'.heap.size:=⟨_,rfl⟩
                  have HS0:=Lh hS0;clear hS0;have k0:=fun xw=>(WS.at HS0 xw).1
                  have k1:=fun xw=>(WS.at HS0 xw).2.1
                  have k2:=fun xw=>(WS.at HS0 xw).2.2.1
                  have k3:=fun xw=>(WS.at HS0 xw).2.2.2.1
                  have k4:=fun xw=>(WS.at HS0 xw).2.2.2.2.1
                  have k5:=fun xw=>(WS.at HS0 xw).2.2.2.2.2.1
                  have k6:=fun xw=>(WS.at HS0 xw).2.2.2.2.2.2.1
                  have k7:=fun xw=>(WS.at HS0 xw).2.2.2.2.2.2.2.1
                  have k8:=fun xw=>(WS.at HS0 xw).2.2.2.2.2.2.2.2
                  refine Yz (S:=S0) [0,1,2,3,4,5,7,6,8] ZK ZK (fun _ _ _ _ _ h=>h) ?hS (fun hSc=>?_)
                  case hS=>
                   rw[HS0.out];exact⟨ZI,ZI,ZI,ZI,ZI,BL,ZJ,ZJ,ZJ⟩
                  have hne0:Nonempty (WS S0):=⟨⟨_,hSc⟩⟩;simp only[List.map_cons,List.map_nil,Ld,Le]
                  repeat
                   first
                   |((with_reducible refine YA ?_ ?_);exact rfl;go_big_quiet_step (fail);(try with_reducible refine wpQuiet_nil ?_);(try dsimp only))
                   |((with_reducible refine YF ?_ ?_ (fun K hK=>?_))
                     exact rfl;exact rfl;go_simp;(try go_wp2_with(go_at_call 86;refine(h1 _ (hWr5.trans ((k5 ⟨_,hSc⟩).mono hWr5.size))).mono ?_;(rintro e w9 ⟨rfl,hb9⟩;obtain⟨hc9,hf9⟩:=Ya hb9;have hz9:=hb9.size;try simp at hz9;try have hy9:=Nl hz9;try have hx9:=Ns hy9;try have hw9:=Ns hx9)));refine hK.out _ _ ?hS (fun hSc=>?_)
                     case hS=>
                      first
                      |exact hSc
                      |(rw[HS0.out]at hSc ⊢;obtain⟨p0,p1,p2,p3,p4,p5,p6,p7,p8⟩:=hSc;exact⟨ZC0,ZC1,ZC2,ZC3,ZC4,(by first|exact p5.trans (hb9.mono (by have:=p5.size;first|omega|(simp at this ⊢;omega)))|exact BL),ZT6,ZT7,ZT8⟩)
                     clear hK K)
                  refine YB ?_;rw[HS0.out]at hSc;obtain⟨p0,p1,p2,p3,p4,p5,p6,p7,p8⟩:=hSc;clear hne0 HS0 k0 k1 k2 k3 k4 k5 k6 k7 k8;go_wp2;go_roundw
                  case rel=>exact⟨m+1,ZN,ZO,hb5.trans (p5.mono hb5.size),HF⟩
                  case measure=>simp[intOf];omega
                · have hty':(Yh F (ith x.args m) !=Yh F x.dst)=true:=by simpa using hty
                  have HF:=failI (by rw[hparts.out,hfm.out,hst.out,HW.out,beq_eq_false_iff_ne.2 hty];rfl);clear hty failI;go_wp2_with(first|(go_at_call 88;refine(Ydg _).mono ?_;rintro e w7 ⟨rfl,rfl⟩)|(go_at_call 86;refine(h2 _ (hWr5.trans BL)).mono ?_;(rintro e w6 ⟨rfl,hb6⟩;obtain⟨hc6,hf6⟩:=Ya hb6;have hz6:=hb6.size;try simp at hz6;try have hy6:=Nl hz6;try have hx6:=Ns hy6;try have hw6:=Ns hx6)));obtain⟨S0,hS0⟩:∃S0:World→Prop,S0=fun w'=>w'.cell? ⟨w.heap.size,0,none⟩=some (.slice A0 F.vars.length c0)∧w'.cell? ⟨w.heap.size,1,none⟩=some (.slice A1 F.params.length c1)∧w'.cell? ⟨w.heap.size,2,none⟩=some (.slice (some ⟨bb,off,none⟩) F.blocks.length c2)∧w'.cell? ⟨ws.heap.size,2,none⟩=some (.slice (some ⟨b7,off7,none⟩) x.args.length c5)∧w'.cell? ⟨b7,off7+m,none⟩=some (.int .i64 (ith x.args m))∧Below wr.heap.size wr w'∧w.heap.size<w'.heap.size∧ws.heap.size<w'.heap.size∧b7<w'.heap.size:=⟨_,rfl⟩
                  have HS0:=Lh hS0;clear hS0;have k0:=fun xw=>(WS.at HS0 xw).1
                  have k1:=fun xw=>(WS.at HS0 xw).2.1
                  have k2:=fun xw=>(WS.at HS0 xw).2.2.1
                  have k3:=fun xw=>(WS.at HS0 xw).2.2.2.1
                  have k4:=fun xw=>(WS.at HS0 xw).2.2.2.2.1
                  have k5:=fun xw=>(WS.at HS0 xw).2.2.2.2.2.1
                  have k6:=fun xw=>(WS.at HS0 xw).2.2.2.2.2.2.1
                  have k7:=fun xw=>(WS.at HS0 xw).2.2.2.2.2.2.2.1
                  have k8:=fun xw=>(WS.at HS0 xw).2.2.2.2.2.2.2.2
                  refine Yz (S:=S0) [0,1,2,3,4,5,7,6,8] ZK ZK (fun _ _ _ _ _ h=>h) ?hS (fun hSc=>?_)
                  case hS=>
                   rw[HS0.out];exact⟨ZI,ZI,ZI,ZI,ZI,BL,ZJ,ZJ,ZJ⟩
                  have hne0:Nonempty (WS S0):=⟨⟨_,hSc⟩⟩;simp only[List.map_cons,List.map_nil,Ld,Le]
                  repeat
                   first
                   |((with_reducible refine YA ?_ ?_);exact rfl;go_big_quiet_step (fail);(try with_reducible refine wpQuiet_nil ?_);(try dsimp only))
                   |((with_reducible refine YF ?_ ?_ (fun K hK=>?_))
                     exact rfl;exact rfl;go_simp;(try go_wp2_with(go_at_call 86;refine(h1 _ (hWr5.trans ((k5 ⟨_,hSc⟩).mono hWr5.size))).mono ?_;(rintro e w9 ⟨rfl,hb9⟩;obtain⟨hc9,hf9⟩:=Ya hb9;have hz9:=hb9.size;try simp at hz9;try have hy9:=Nl hz9;try have hx9:=Ns hy9;try have hw9:=Ns hx9)));refine hK.out _ _ ?hS (fun hSc=>?_)
                     case hS=>
                      first
                      |exact hSc
                      |(rw[HS0.out]at hSc ⊢;obtain⟨p0,p1,p2,p3,p4,p5,p6,p7,p8⟩:=hSc;exact⟨ZC0,ZC1,ZC2,ZC3,ZC4,(by first|exact p5.trans (hb9.mono (by have:=p5.size;first|omega|(simp at this ⊢;omega)))|exact BL),ZT6,ZT7,ZT8⟩)
                     clear hK K)
                  refine YB ?_;rw[HS0.out]at hSc;obtain⟨p0,p1,p2,p3,p4,p5,p6,p7,p8⟩:=hSc;clear hne0 HS0 k0 k1 k2 k3 k4 k5 k6 k7 k8;go_wp2;go_ret;exact⟨Yb HF.out.symm,hB.trans ((hB5.trans (p5.mono hB5.size)).mono hB.size)⟩
              · have HW:=Lh (show ith (YaB F x) m=Y3 cc by rw[YaB,if_neg hcp,hcc])
                have hk:(sW.toList==[99,111,112,121])=false:=by rw[K5'.out,decide_eq_false hcp]
                clear hcp hcc
                by_cases hty:Yh F (ith x.args m)=Y3 cc
                · have hty':(Yh F (ith x.args m) !=Y3 cc)=false:=by simpa using hty
                  have HF:=Lh (show YV F x.args (YaB F x)=YV F (x.args.drop (m+1)) ((YaB F x).drop (m+1)) by rw[hfm.out,hst.out,HW.out,hty];simp);clear hty failI;go_wp2_with((go_at_call 88;refine(Ydg _).mono ?_;rintro e w7 ⟨rfl,rfl⟩));obtain⟨S0,hS0⟩:∃S0:World→Prop,S0=fun w'=>w'.cell? ⟨w.heap.size,0,none⟩=some (.slice A0 F.vars.length c0)∧w'.cell? ⟨w.heap.size,1,none⟩=some (.slice A1 F.params.length c1)∧w'.cell? ⟨w.heap.size,2,none⟩=some (.slice (some ⟨bb,off,none⟩) F.blocks.length c2)∧w'.cell? ⟨ws.heap.size,2,none⟩=some (.slice (some ⟨b7,off7,none⟩) x.args.length c5)∧w'.cell? ⟨b7,off7+m,none⟩=some (.int .i64 (ith x.args m))∧Below wr.heap.size wr w'∧w.heap.size<w'.heap.size∧ws.heap.size<w'.heap.size∧b7<w'.heap.size:=⟨_,rfl⟩
                  have HS0:=Lh hS0;clear hS0;have k0:=fun xw=>(WS.at HS0 xw).1
                  have k1:=fun xw=>(WS.at HS0 xw).2.1
                  have k2:=fun xw=>(WS.at HS0 xw).2.2.1
                  have k3:=fun xw=>(WS.at HS0 xw).2.2.2.1
                  have k4:=fun xw=>(WS.at HS0 xw).2.2.2.2.1
                  have k5:=fun xw=>(WS.at HS0 xw).2.2.2.2.2.1
                  have k6:=fun xw=>(WS.at HS0 xw).2.2.2.2.2.2.1
                  have k7:=fun xw=>(WS.at HS0 xw).2.2.2.2.2.2.2.1
                  have k8:=fun xw=>(WS.at HS0 xw).2.2.2.2.2.2.2.2
                  refine Yz (S:=S0) [0,1,2,3,4,5,7,6,8] ZK ZK (fun _ _ _ _ _ h=>h) ?hS (fun hSc=>?_)
                  case hS=>
                   rw[HS0.out];exact⟨ZI,ZI,ZI,ZI,ZI,BL,ZJ,ZJ,ZJ⟩
                  have hne0:Nonempty (WS S0):=⟨⟨_,hSc⟩⟩;simp only[List.map_cons,List.map_nil,Ld,Le]
                  repeat
                   first
                   |((with_reducible refine YA ?_ ?_);exact rfl;go_big_quiet_step (fail);(try with_reducible refine wpQuiet_nil ?_);(try dsimp only))
                   |((with_reducible refine YF ?_ ?_ (fun K hK=>?_))
                     exact rfl;exact rfl;go_simp;(try go_wp2_with(go_at_call 86;refine(h1 _ (hWr5.trans ((k5 ⟨_,hSc⟩).mono hWr5.size))).mono ?_;(rintro e w9 ⟨rfl,hb9⟩;obtain⟨hc9,hf9⟩:=Ya hb9;have hz9:=hb9.size;try simp at hz9;try have hy9:=Nl hz9;try have hx9:=Ns hy9;try have hw9:=Ns hx9)));refine hK.out _ _ ?hS (fun hSc=>?_)
                     case hS=>
                      first
                      |exact hSc
                      |(rw[HS0.out]at hSc ⊢;obtain⟨p0,p1,p2,p3,p4,p5,p6,p7,p8⟩:=hSc;exact⟨ZC0,ZC1,ZC2,ZC3,ZC4,(by first|exact p5.trans (hb9.mono (by have:=p5.size;first|omega|(simp at this ⊢;omega)))|exact BL),ZT6,ZT7,ZT8⟩)
                     clear hK K)
                  refine YB ?_;rw[HS0.out]at hSc;obtain⟨p0,p1,p2,p3,p4,p5,p6,p7,p8⟩:=hSc;clear hne0 HS0 k0 k1 k2 k3 k4 k5 k6 k7 k8;go_wp2;go_roundw
                  case rel=>exact⟨m+1,ZN,ZO,hb5.trans (p5.mono hb5.size),HF⟩
                  case measure=>simp[intOf];omega
                · have hty':(Yh F (ith x.args m) !=Y3 cc)=true:=by simpa using hty
                  have HF:=failI (by rw[hparts.out,hfm.out,hst.out,HW.out,beq_eq_false_iff_ne.2 hty];rfl);clear hty failI;go_wp2_with((go_at_call 88;refine(Ydg _).mono ?_;rintro e w7 ⟨rfl,rfl⟩));obtain⟨S0,hS0⟩:∃S0:World→Prop,S0=fun w'=>w'.cell? ⟨w.heap.size,0,none⟩=some (.slice A0 F.vars.length c0)∧w'.cell? ⟨w.heap.size,1,none⟩=some (.slice A1 F.params.length c1)∧w'.cell? ⟨w.heap.size,2,none⟩=some (.slice (some ⟨bb,off,none⟩) F.blocks.length c2)∧w'.cell? ⟨ws.heap.size,2,none⟩=some (.slice (some ⟨b7,off7,none⟩) x.args.length c5)∧w'.cell? ⟨b7,off7+m,none⟩=some (.int .i64 (ith x.args m))∧Below wr.heap.size wr w'∧w.heap.size<w'.heap.size∧ws.heap.size<w'.heap.size∧b7<w'.heap.size:=⟨_,rfl⟩
                  have HS0:=Lh hS0;clear hS0;have k0:=fun xw=>(WS.at HS0 xw).1
                  have k1:=fun xw=>(WS.at HS0 xw).2.1
                  have k2:=fun xw=>(WS.at HS0 xw).2.2.1
                  have k3:=fun xw=>(WS.at HS0 xw).2.2.2.1
                  have k4:=fun xw=>(WS.at HS0 xw).2.2.2.2.1
                  have k5:=fun xw=>(WS.at HS0 xw).2.2.2.2.2.1
                  have k6:=fun xw=>(WS.at HS0 xw).2.2.2.2.2.2.1
                  have k7:=fun xw=>(WS.at HS0 xw).2.2.2.2.2.2.2.1
                  have k8:=fun xw=>(WS.at HS0 xw).2.2.2.2.2.2.2.2
                  refine Yz (S:=S0) [0,1,2,3,4,5,7,6,8] ZK ZK (fun _ _ _ _ _ h=>h) ?hS (fun hSc=>?_)
                  case hS=>
                   rw[HS0.out];exact⟨ZI,ZI,ZI,ZI,ZI,BL,ZJ,ZJ,ZJ⟩
                  have hne0:Nonempty (WS S0):=⟨⟨_,hSc⟩⟩;simp only[List.map_cons,List.map_nil,Ld,Le]
                  repeat
                   first
                   |((with_reducible refine YA ?_ ?_);exact rfl;go_big_quiet_step (fail);(try with_reducible refine wpQuiet_nil ?_);(try dsimp only))
                   |((with_reducible refine YF ?_ ?_ (fun K hK=>?_))
                     exact rfl;exact rfl;go_simp;(try go_wp2_with(go_at_call 86;refine(h1 _ (hWr5.trans ((k5 ⟨_,hSc⟩).mono hWr5.size))).mono ?_;(rintro e w9 ⟨rfl,hb9⟩;obtain⟨hc9,hf9⟩:=Ya hb9;have hz9:=hb9.size;try simp at hz9;try have hy9:=Nl hz9;try have hx9:=Ns hy9;try have hw9:=Ns hx9)));refine hK.out _ _ ?hS (fun hSc=>?_)
                     case hS=>
                      first
                      |exact hSc
                      |(rw[HS0.out]at hSc ⊢;obtain⟨p0,p1,p2,p3,p4,p5,p6,p7,p8⟩:=hSc;exact⟨ZC0,ZC1,ZC2,ZC3,ZC4,(by first|exact p5.trans (hb9.mono (by have:=p5.size;first|omega|(simp at this ⊢;omega)))|exact BL),ZT6,ZT7,ZT8⟩)
                     clear hK K)
                  refine YB ?_;rw[HS0.out]at hSc;obtain⟨p0,p1,p2,p3,p4,p5,p6,p7,p8⟩:=hSc;clear hne0 HS0 k0 k1 k2 k3 k4 k5 k6 k7 k8;go_wp2;go_ret;exact⟨Yb HF.out.symm,hB.trans ((hB5.trans (p5.mono hB5.size)).mono hB.size)⟩
            · have hdone:=Lh (show YV F x.args (YaB F x)=true by rw[hfm.out,Yg0 (by rw[← hxL.out];omega)])
              have hI1:=Lh (show YE F x=(decide (x.op=1)||!Yaf x.op||Yh F x.dst==YbB x.op) by rw[hparts.out,hdone.out,Bool.true_and]);have passI:YE F x=true→Hid ((F.blk n).insts.all (YE F)=((F.blk n).insts.drop (j+1)).all (YE F)):=fun h=>by rw[Hid,hfj.out,hdj.out,List.all_cons,h];rfl
              cases hM:Yaf x.op
              · have hme:sM.toList.isEmpty=true:=by rw[K2'.out,hM];rfl
                have HF:=passI (by rw[hI1.out,hM];simp);clear hM failI passI;go_wp2_with fail;obtain⟨S0,hS0⟩:∃S0:World→Prop,S0=fun w'=>w'.cell? ⟨w.heap.size,0,none⟩=some (.slice A0 F.vars.length c0)∧w'.cell? ⟨w.heap.size,1,none⟩=some (.slice A1 F.params.length c1)∧w'.cell? ⟨w.heap.size,2,none⟩=some (.slice (some ⟨bb,off,none⟩) F.blocks.length c2)∧w'.cell? ⟨ws.heap.size,1,none⟩=some (.int .i64 x.dst)∧w'.cell? ⟨g,0,none⟩=some (.string sW)∧w'.cell? ⟨g,2,none⟩=some (.string sM)∧Below wr.heap.size wr w'∧w.heap.size<w'.heap.size∧ws.heap.size<w'.heap.size∧g<w'.heap.size:=⟨_,rfl⟩
                have HS0:=Lh hS0;clear hS0;have k0:=fun xw=>(WS.at HS0 xw).1
                have k1:=fun xw=>(WS.at HS0 xw).2.1
                have k2:=fun xw=>(WS.at HS0 xw).2.2.1
                have k3:=fun xw=>(WS.at HS0 xw).2.2.2.1
                have k4:=fun xw=>(WS.at HS0 xw).2.2.2.2.1
                have k5:=fun xw=>(WS.at HS0 xw).2.2.2.2.2.1
                have k6:=fun xw=>(WS.at HS0 xw).2.2.2.2.2.2.1
                have k7:=fun xw=>(WS.at HS0 xw).2.2.2.2.2.2.2.1
                have k8:=fun xw=>(WS.at HS0 xw).2.2.2.2.2.2.2.2.1
                have k9:=fun xw=>(WS.at HS0 xw).2.2.2.2.2.2.2.2.2
                refine Yz (S:=S0) [0,1,2,3,4,5,6,7,8,9,10,11,13,14,15,12,16,17,18] ZK ZK (fun _ _ _ _ _ h=>h) ?hS (fun hSc=>?_)
                case hS=>
                 rw[HS0.out];exact⟨ZI,ZI,ZI,ZI,ZI,ZI,BL,ZJ,ZJ,ZJ⟩
                have hne0:Nonempty (WS S0):=⟨⟨_,hSc⟩⟩;simp only[List.map_cons,List.map_nil,Ld,Le]
                repeat
                 first
                 |((with_reducible refine YA ?_ ?_);exact rfl;go_big_quiet_step (fail);(try with_reducible refine wpQuiet_nil ?_);(try dsimp only))
                 |((with_reducible refine Ydo ?_ ?_);exact rfl;simp only[Act.put,La,Lz,Lc])
                refine YB ?_;rw[HS0.out]at hSc;obtain⟨p0,p1,p2,p3,p4,p5,p6,p7,p8,p9⟩:=hSc;clear hne0 HS0 k0 k1 k2 k3 k4 k5 k6 k7 k8 k9;go_wp2;go_roundw
                case rel=>first|exact⟨j+1,ZN,ZO,hbj.trans ((hBcx.trans (p6.mono hBcx.size)).mono (by simpa using hbj.size)),HF⟩|((repeat apply Exists.intro);exact⟨⟨j+1,ZN,ZO,hbj.trans ((hBcx.trans (p6.mono hBcx.size)).mono (by simpa using hbj.size)),HF⟩,rfl⟩)
                case measure=>simp[intOf];omega
              have hme:sM.toList.isEmpty=false:=by rw[K2'.out,hM];rfl
              by_cases hcp:x.op=1
              · have HF:=passI (by rw[hI1.out,decide_eq_true hcp];rfl)
                have hk:(sW.toList==[99,111,112,121])=true:=by rw[K5'.out,decide_eq_true hcp]
                have hk2:(!sW.toList==[99,111,112,121])=false:=by rw[hk];rfl
                clear hM failI passI hcp;go_wp2_with fail;obtain⟨S0,hS0⟩:∃S0:World→Prop,S0=fun w'=>w'.cell? ⟨w.heap.size,0,none⟩=some (.slice A0 F.vars.length c0)∧w'.cell? ⟨w.heap.size,1,none⟩=some (.slice A1 F.params.length c1)∧w'.cell? ⟨w.heap.size,2,none⟩=some (.slice (some ⟨bb,off,none⟩) F.blocks.length c2)∧w'.cell? ⟨ws.heap.size,1,none⟩=some (.int .i64 x.dst)∧w'.cell? ⟨g,0,none⟩=some (.string sW)∧w'.cell? ⟨g,2,none⟩=some (.string sM)∧Below wr.heap.size wr w'∧w.heap.size<w'.heap.size∧ws.heap.size<w'.heap.size∧g<w'.heap.size:=⟨_,rfl⟩
                have HS0:=Lh hS0;clear hS0;have k0:=fun xw=>(WS.at HS0 xw).1
                have k1:=fun xw=>(WS.at HS0 xw).2.1
                have k2:=fun xw=>(WS.at HS0 xw).2.2.1
                have k3:=fun xw=>(WS.at HS0 xw).2.2.2.1
                have k4:=fun xw=>(WS.at HS0 xw).2.2.2.2.1
                have k5:=fun xw=>(WS.at HS0 xw).2.2.2.2.2.1
                have k6:=fun xw=>(WS.at HS0 xw).2.2.2.2.2.2.1
                have k7:=fun xw=>(WS.at HS0 xw).2.2.2.2.2.2.2.1
                have k8:=fun xw=>(WS.at HS0 xw).2.2.2.2.2.2.2.2.1
                have k9:=fun xw=>(WS.at HS0 xw).2.2.2.2.2.2.2.2.2
                refine Yz (S:=S0) [0,1,2,3,4,5,6,7,8,9,10,11,13,14,15,12,16,17,18] ZK ZK (fun _ _ _ _ _ h=>h) ?hS (fun hSc=>?_)
                case hS=>
                 rw[HS0.out];exact⟨ZI,ZI,ZI,ZI,ZI,ZI,BL,ZJ,ZJ,ZJ⟩
                have hne0:Nonempty (WS S0):=⟨⟨_,hSc⟩⟩;simp only[List.map_cons,List.map_nil,Ld,Le]
                repeat
                 first
                 |((with_reducible refine YA ?_ ?_);exact rfl;go_big_quiet_step (fail);(try with_reducible refine wpQuiet_nil ?_);(try dsimp only))
                 |((with_reducible refine Ydo ?_ ?_);exact rfl;simp only[Act.put,La,Lz,Lc])
                refine YB ?_;rw[HS0.out]at hSc;obtain⟨p0,p1,p2,p3,p4,p5,p6,p7,p8,p9⟩:=hSc;clear hne0 HS0 k0 k1 k2 k3 k4 k5 k6 k7 k8 k9;go_wp2;go_roundw
                case rel=>first|exact⟨j+1,ZN,ZO,hbj.trans ((hBcx.trans (p6.mono hBcx.size)).mono (by simpa using hbj.size)),HF⟩|((repeat apply Exists.intro);exact⟨⟨j+1,ZN,ZO,hbj.trans ((hBcx.trans (p6.mono hBcx.size)).mono (by simpa using hbj.size)),HF⟩,rfl⟩)
                case measure=>simp[intOf];omega
              have hk:(sW.toList==[99,111,112,121])=false:=by rw[K5'.out,decide_eq_false hcp]
              have hk2:(!sW.toList==[99,111,112,121])=true:=by rw[hk];rfl
              have h2:=fun(w:World) (h:Below W.heap.size W w)=>Ycv hF h (hvd.out hM)
              obtain⟨k71,k72⟩:=K7'.out hM;obtain⟨hz0,hz1⟩:=ixM.out k71;rw[← hz1]at k72
              by_cases hty:Yh F x.dst=Y3 ((sM[0]'hz0).toNat:Int)
              · have hty':(Yh F x.dst !=Y3 ((sM[0]'hz0).toNat:Int))=false:=by simpa using hty
                have HF:=passI (by rw[hI1.out,← k72,hty];simp);clear hM failI passI hcp hty k71 k72 hz1;go_wp2_with fail;obtain⟨S0,hS0⟩:∃S0:World→Prop,S0=fun w'=>w'.cell? ⟨w.heap.size,0,none⟩=some (.slice A0 F.vars.length c0)∧w'.cell? ⟨w.heap.size,1,none⟩=some (.slice A1 F.params.length c1)∧w'.cell? ⟨w.heap.size,2,none⟩=some (.slice (some ⟨bb,off,none⟩) F.blocks.length c2)∧w'.cell? ⟨ws.heap.size,1,none⟩=some (.int .i64 x.dst)∧w'.cell? ⟨g,0,none⟩=some (.string sW)∧w'.cell? ⟨g,2,none⟩=some (.string sM)∧Below wr.heap.size wr w'∧w.heap.size<w'.heap.size∧ws.heap.size<w'.heap.size∧g<w'.heap.size:=⟨_,rfl⟩
                have HS0:=Lh hS0;clear hS0;have k0:=fun xw=>(WS.at HS0 xw).1
                have k1:=fun xw=>(WS.at HS0 xw).2.1
                have k2:=fun xw=>(WS.at HS0 xw).2.2.1
                have k3:=fun xw=>(WS.at HS0 xw).2.2.2.1
                have k4:=fun xw=>(WS.at HS0 xw).2.2.2.2.1
                have k5:=fun xw=>(WS.at HS0 xw).2.2.2.2.2.1
                have k6:=fun xw=>(WS.at HS0 xw).2.2.2.2.2.2.1
                have k7:=fun xw=>(WS.at HS0 xw).2.2.2.2.2.2.2.1
                have k8:=fun xw=>(WS.at HS0 xw).2.2.2.2.2.2.2.2.1
                have k9:=fun xw=>(WS.at HS0 xw).2.2.2.2.2.2.2.2.2
                refine Yz (S:=S0) [0,1,2,3,4,5,6,7,8,9,10,11,13,14,15,12,16,17,18] ZK ZK (fun _ _ _ _ _ h=>h) ?hS (fun hSc=>?_)
                case hS=>
                 rw[HS0.out];exact⟨ZI,ZI,ZI,ZI,ZI,ZI,BL,ZJ,ZJ,ZJ⟩
                have hne0:Nonempty (WS S0):=⟨⟨_,hSc⟩⟩;simp only[List.map_cons,List.map_nil,Ld,Le]
                repeat
                 first
                 |((with_reducible refine YA ?_ ?_);exact rfl;go_big_quiet_step (fail);(try with_reducible refine wpQuiet_nil ?_);(try dsimp only))
                 |((with_reducible refine YF ?_ ?_ (fun K hK=>?_))
                   exact rfl;exact rfl;go_simp;(try go_wp2_with(first|(go_at_call 86;refine(h2 _ (hWr5.trans ((k6 ⟨_,hSc⟩).mono hWr5.size))).mono ?_;(rintro e w9 ⟨rfl,hb9⟩;obtain⟨hc9,hf9⟩:=Ya hb9;have hz9:=hb9.size;try simp at hz9;try have hy9:=Nl hz9;try have hx9:=Ns hy9;try have hw9:=Ns hx9))|(go_at_call 88;refine(Ydg _).mono ?_;rintro e w7 ⟨rfl,rfl⟩)));refine hK.out _ _ ?hS (fun hSc=>?_)
                   case hS=>
                    first
                    |exact hSc
                    |(rw[HS0.out]at hSc ⊢;obtain⟨p0,p1,p2,p3,p4,p5,p6,p7,p8,p9⟩:=hSc;exact⟨ZC0,ZC1,ZC2,ZC3,ZC4,ZC5,ZL6,ZT7,ZT8,ZT9⟩)
                   clear hK K)
                refine YB ?_;rw[HS0.out]at hSc;obtain⟨p0,p1,p2,p3,p4,p5,p6,p7,p8,p9⟩:=hSc;clear hne0 HS0 k0 k1 k2 k3 k4 k5 k6 k7 k8 k9;go_wp2;go_roundw
                case rel=>first|exact⟨j+1,ZN,ZO,hbj.trans ((hBcx.trans (p6.mono hBcx.size)).mono (by simpa using hbj.size)),HF⟩|((repeat apply Exists.intro);exact⟨⟨j+1,ZN,ZO,hbj.trans ((hBcx.trans (p6.mono hBcx.size)).mono (by simpa using hbj.size)),HF⟩,rfl⟩)
                case measure=>simp[intOf];omega
              · have hty':(Yh F x.dst !=Y3 ((sM[0]'hz0).toNat:Int))=true:=by simpa using hty
                have HF:=failI (by rw[hI1.out,← k72,hM,decide_eq_false hcp,beq_eq_false_iff_ne.2 hty];rfl);clear hM failI passI hcp hty k71 k72 hz1;go_wp2_with fail;obtain⟨S0,hS0⟩:∃S0:World→Prop,S0=fun w'=>w'.cell? ⟨w.heap.size,0,none⟩=some (.slice A0 F.vars.length c0)∧w'.cell? ⟨w.heap.size,1,none⟩=some (.slice A1 F.params.length c1)∧w'.cell? ⟨w.heap.size,2,none⟩=some (.slice (some ⟨bb,off,none⟩) F.blocks.length c2)∧w'.cell? ⟨ws.heap.size,1,none⟩=some (.int .i64 x.dst)∧w'.cell? ⟨g,0,none⟩=some (.string sW)∧w'.cell? ⟨g,2,none⟩=some (.string sM)∧Below wr.heap.size wr w'∧w.heap.size<w'.heap.size∧ws.heap.size<w'.heap.size∧g<w'.heap.size:=⟨_,rfl⟩
                have HS0:=Lh hS0;clear hS0;have k0:=fun xw=>(WS.at HS0 xw).1
                have k1:=fun xw=>(WS.at HS0 xw).2.1
                have k2:=fun xw=>(WS.at HS0 xw).2.2.1
                have k3:=fun xw=>(WS.at HS0 xw).2.2.2.1
                have k4:=fun xw=>(WS.at HS0 xw).2.2.2.2.1
                have k5:=fun xw=>(WS.at HS0 xw).2.2.2.2.2.1
                have k6:=fun xw=>(WS.at HS0 xw).2.2.2.2.2.2.1
                have k7:=fun xw=>(WS.at HS0 xw).2.2.2.2.2.2.2.1
                have k8:=fun xw=>(WS.at HS0 xw).2.2.2.2.2.2.2.2.1
                have k9:=fun xw=>(WS.at HS0 xw).2.2.2.2.2.2.2.2.2
                refine Yz (S:=S0) [0,1,2,3,4,5,6,7,8,9,10,11,13,14,15,12,16,17,18] ZK ZK (fun _ _ _ _ _ h=>h) ?hS (fun hSc=>?_)
                case hS=>
                 rw[HS0.out];exact⟨ZI,ZI,ZI,ZI,ZI,ZI,BL,ZJ,ZJ,ZJ⟩
                have hne0:Nonempty (WS S0):=⟨⟨_,hSc⟩⟩;simp only[List.map_cons,List.map_nil,Ld,Le]
                repeat
                 first
                 |((with_reducible refine YA ?_ ?_);exact rfl;go_big_quiet_step (fail);(try with_reducible refine wpQuiet_nil ?_);(try dsimp only))
                 |((with_reducible refine YF ?_ ?_ (fun K hK=>?_))
                   exact rfl;exact rfl;go_simp;(try go_wp2_with(first|(go_at_call 86;refine(h2 _ (hWr5.trans ((k6 ⟨_,hSc⟩).mono hWr5.size))).mono ?_;(rintro e w9 ⟨rfl,hb9⟩;obtain⟨hc9,hf9⟩:=Ya hb9;have hz9:=hb9.size;try simp at hz9;try have hy9:=Nl hz9;try have hx9:=Ns hy9;try have hw9:=Ns hx9))|(go_at_call 88;refine(Ydg _).mono ?_;rintro e w7 ⟨rfl,rfl⟩)));refine hK.out _ _ ?hS (fun hSc=>?_)
                   case hS=>
                    first
                    |exact hSc
                    |(rw[HS0.out]at hSc ⊢;obtain⟨p0,p1,p2,p3,p4,p5,p6,p7,p8,p9⟩:=hSc;exact⟨ZC0,ZC1,ZC2,ZC3,ZC4,ZC5,ZL6,ZT7,ZT8,ZT9⟩)
                   clear hK K)
                refine YB ?_;rw[HS0.out]at hSc;obtain⟨p0,p1,p2,p3,p4,p5,p6,p7,p8,p9⟩:=hSc;clear hne0 HS0 k0 k1 k2 k3 k4 k5 k6 k7 k8 k9;go_wp2;go_ret;exact⟨Yb HF.out.symm,hB.trans ((hB5.trans (p6.mono hB5.size)).mono hB.size)⟩
        · have hfi:=Lh (show(F.blk n).insts.all (YE F)=true by rw[hfj.out,List.drop_eq_nil_of_le ZO];rfl)
          have y3:wr.cell? ⟨wq.heap.size,3,none⟩=some (.int .i64 (F.blk n).term.kind):=ex 3;have y4:wr.cell? ⟨wq.heap.size,4,none⟩=some (.int .i64 (F.blk n).term.var):=ex 4;have y5:wr.cell? ⟨wq.heap.size,5,none⟩=some (.int .i64 (F.blk n).term.t0):=ex 5;have y6:wr.cell? ⟨wq.heap.size,6,none⟩=some (.int .i64 (F.blk n).term.t1):=ex 6;have f0:=(hBj.cell (p:=⟨w.heap.size,0,none⟩) hq).trans hq0;have f1:=(hBj.cell (p:=⟨w.heap.size,1,none⟩) hq).trans hq1;have f2:=(hBj.cell (p:=⟨w.heap.size,2,none⟩) hq).trans hq2;have f8:=Nt hq hBj.size;have HTM:=Lh (show Yay F (F.blk n).term=if(F.blk n).term.kind=0 then(F.blk n).term.t0 !=0 else if(F.blk n).term.kind=1 then Yh F (F.blk n).term.var==1&&(F.blk n).term.t0 !=0&&(F.blk n).term.t1 !=0 else Yh F (F.blk n).term.var==0 from rfl);have hk3:(F.blk n).term.kind=0∨(F.blk n).term.kind=1∨(F.blk n).term.kind=2:=by
           have h:=HT.out;unfold YJ at h
           by_cases h0:(F.blk n).term.kind=0
           · exact .inl h0
           by_cases h1:(F.blk n).term.kind=1
           · exact .inr (.inl h1)
           by_cases h2:(F.blk n).term.kind=2
           · exact .inr (.inr h2)
           rw[if_neg h0,if_neg h1,if_neg h2]at h;cases h
          have hvt:=Yfr HT.out;have failT:Yay F (F.blk n).term=false→Hid (F.blocks.all (YK F)=false):=fun h=>failB (by rw[YK,h];simp)
          have passT:Yay F (F.blk n).term=true→Hid (F.blocks.all (YK F)=(F.blocks.drop (n+1)).all (YK F)):=fun h=>by rw[Hid,hf.out,hd.out,List.all_cons,YK,hfp.out,hfi.out,h];rfl
          clear ex hfj failB hq0 hq1 hq2 HT;generalize (F.blk n).term.kind=kd at *;generalize (F.blk n).term.var=tv at *;generalize (F.blk n).term.t0=t0 at *;generalize (F.blk n).term.t1=t1 at *;rcases hk3 with hk|hk|hk
          · subst hk
            clear hvt;have HK:=Lh (show Yay F (F.blk n).term=(t0 !=0) by rw[HTM.out,if_pos rfl])
            by_cases h0:t0=0
            · have h0':(t0==0)=true:=by simpa using h0
              have HF:=failT (by rw[HK.out];simp[h0]);clear failT passT h0;go_wp2;go_ret;exact⟨Yb HF.out.symm,hB.trans ((hBj.trans BL).mono hB.size)⟩
            · have h0':(t0==0)=false:=by simpa using h0
              have HF:=passT (by rw[HK.out];simpa using h0);clear failT passT h0;go_wp2;go_roundw
              case rel=>exact⟨n+1,ZN,ZO,hb.trans ((hBj.trans BL).mono (by simpa using hb.size)),HF⟩
              case measure=>simp[intOf];omega
          · subst hk
            have v0:=fun(w:World) (h:Below W.heap.size W w)=>Ycv hF h (hvt ZD)
            clear hvt;have HK:=Lh (show Yay F (F.blk n).term=(Yh F tv==1&&t0 !=0&&t1 !=0) by rw[HTM.out,if_neg ZD,if_pos rfl])
            by_cases hty:Yh F tv=1
            case neg=>
             have hty':(Yh F tv !=1)=true:=by simpa using hty
             have HF:=failT (by rw[HK.out];simp[hty]);clear failT passT hty;go_wp2_with(go_at_call 86;refine(v0 _ (hWj.trans BL)).mono ?_;(rintro e w6 ⟨rfl,hb6⟩;obtain⟨hc6,hf6⟩:=Ya hb6;have hz6:=hb6.size;try simp at hz6;try have hy6:=Nl hz6;try have hx6:=Ns hy6;try have hw6:=Ns hx6));go_ret;exact⟨Yb HF.out.symm,hB.trans ((hBj.trans BL).mono hB.size)⟩
            have hty':(Yh F tv !=1)=false:=by simpa using hty
            by_cases h0:t0=0
            · have h0':(t0==0)=true:=by simpa using h0
              have HF:=failT (by rw[HK.out];simp[h0]);clear failT passT h0 hty;go_wp2_with(go_at_call 86;refine(v0 _ (hWj.trans BL)).mono ?_;(rintro e w6 ⟨rfl,hb6⟩;obtain⟨hc6,hf6⟩:=Ya hb6;have hz6:=hb6.size;try simp at hz6;try have hy6:=Nl hz6;try have hx6:=Ns hy6;try have hw6:=Ns hx6));go_ret;exact⟨Yb HF.out.symm,hB.trans ((hBj.trans BL).mono hB.size)⟩
            have h0':(t0==0)=false:=by simpa using h0
            by_cases h1:t1=0
            · have h1':(t1==0)=true:=by simpa using h1
              have HF:=failT (by rw[HK.out];simp[h1]);clear failT passT h0 h1 hty;go_wp2_with(go_at_call 86;refine(v0 _ (hWj.trans BL)).mono ?_;(rintro e w6 ⟨rfl,hb6⟩;obtain⟨hc6,hf6⟩:=Ya hb6;have hz6:=hb6.size;try simp at hz6;try have hy6:=Nl hz6;try have hx6:=Ns hy6;try have hw6:=Ns hx6));go_ret;exact⟨Yb HF.out.symm,hB.trans ((hBj.trans BL).mono hB.size)⟩
            have h1':(t1==0)=false:=by simpa using h1
            have HF:=passT (by rw[HK.out];simp[hty,h0,h1]);clear failT passT h0 h1 hty;go_wp2_with(go_at_call 86;refine(v0 _ (hWj.trans BL)).mono ?_;(rintro e w6 ⟨rfl,hb6⟩;obtain⟨hc6,hf6⟩:=Ya hb6;have hz6:=hb6.size;try simp at hz6;try have hy6:=Nl hz6;try have hx6:=Ns hy6;try have hw6:=Ns hx6));go_roundw
            case rel=>exact⟨n+1,ZN,ZO,hb.trans ((hBj.trans BL).mono (by simpa using hb.size)),HF⟩
            case measure=>simp[intOf];omega
          · subst hk
            have v0:=fun(w:World) (h:Below W.heap.size W w)=>Ycv hF h (hvt ZD)
            clear hvt;have HK:=Lh (show Yay F (F.blk n).term=(Yh F tv==0) by rw[HTM.out,if_neg ZD,if_neg ZD])
            by_cases hty:Yh F tv=0
            case neg=>
             have hty':(Yh F tv !=0)=true:=by simpa using hty
             have HF:=failT (by rw[HK.out];simp[hty]);clear failT passT hty;go_wp2_with(go_at_call 86;refine(v0 _ (hWj.trans BL)).mono ?_;(rintro e w6 ⟨rfl,hb6⟩;obtain⟨hc6,hf6⟩:=Ya hb6;have hz6:=hb6.size;try simp at hz6;try have hy6:=Nl hz6;try have hx6:=Ns hy6;try have hw6:=Ns hx6));go_ret;exact⟨Yb HF.out.symm,hB.trans ((hBj.trans BL).mono hB.size)⟩
            have hty':(Yh F tv !=0)=false:=by simpa using hty
            have HF:=passT (by rw[HK.out];simp[hty]);clear failT passT hty;go_wp2_with(go_at_call 86;refine(v0 _ (hWj.trans BL)).mono ?_;(rintro e w6 ⟨rfl,hb6⟩;obtain⟨hc6,hf6⟩:=Ya hb6;have hz6:=hb6.size;try simp at hz6;try have hy6:=Nl hz6;try have hx6:=Ns hy6;try have hw6:=Ns hx6));go_roundw
            case rel=>exact⟨n+1,ZN,ZO,hb.trans ((hBj.trans BL).mono (by simpa using hb.size)),HF⟩
            case measure=>simp[intOf];omega
  · have hfe:=Lh (show F.blocks.all (YK F)=true by rw[hf.out,List.drop_eq_nil_of_le ZO];rfl)
    go_wp2;go_ret;exact⟨Yb hfe.out.symm,hB⟩
end Go.Proofs.YtjlclkcmfokobaaGreatDoor
