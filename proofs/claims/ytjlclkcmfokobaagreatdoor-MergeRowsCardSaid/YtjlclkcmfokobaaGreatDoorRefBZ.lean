/- The walk of the reference's Shaped: it answers what the program's answers. -/
import Derived.Test.YtjlclkcmfokobaaGreatDoorRefRZ
import Derived.Deep.DeepCutAuto
import Derived.Deep.LoopGhost
namespace Go.Proofs.YtjlclkcmfokobaaGreatDoor
open Go.RowKit
set_option maxRecDepth 100000
set_option maxHeartbeats 8000000 in
theorem Yno{W w:World}{fv:Value}{F:PFunc}(hU:Uni W)(hF:FnV W W.heap.size fv F)(hW:Below W.heap.size W w)(hS:YU F) :
 Calls Tryz.prog 85 #[fv] w fun e w'=>e=.returned (.bool (Yj F))∧Below w.heap.size w w':=by
 obtain⟨A0,c0,A1,c1,A2,c2,rfl,l0,l1,l2,-,-,-,r0,r1,r2⟩:=id hF.open_;obtain⟨s0,s1,s2⟩:=id hS;unfold Len at *;have hWs:=hW.size;have hb0:=(Br w.heap.size w).alloc (Nr _) (.cells #[.slice A0 F.vars.length c0,.slice A1 F.params.length c1,.slice A2 F.blocks.length c2] 26);have fail0:¬(F.vars.length≤512∧F.params.length≤8∧F.params.length≤F.vars.length∧1≤F.blocks.length∧F.blocks.length≤64)→Hid (Yj F=false):=fun h=>by
  rw[Hid,Yhg,show Yc0 F=false by unfold Yc0;simp only[Bool.and_eq_false_iff,decide_eq_false_iff_not];omega];rfl
 by_cases t1:F.vars.length≤512
 case neg=>
  have HF:=fail0 ZO;clear fail0;go_enter Tryz.func85,Tryz.ntmps85;go_wp2;go_ret;exact⟨Yb HF.out.symm,BL⟩
 by_cases t2:F.params.length≤8
 case neg=>
  have HF:=fail0 ZO;clear fail0;go_enter Tryz.func85,Tryz.ntmps85;go_wp2;go_ret;exact⟨Yb HF.out.symm,BL⟩
 by_cases t3:F.params.length≤F.vars.length
 case neg=>
  have HF:=fail0 ZO;clear fail0;go_enter Tryz.func85,Tryz.ntmps85;go_wp2;go_ret;exact⟨Yb HF.out.symm,BL⟩
 by_cases t4:1≤F.blocks.length
 case neg=>
  have HF:=fail0 ZO;clear fail0;go_enter Tryz.func85,Tryz.ntmps85;go_wp2;go_ret;exact⟨Yb HF.out.symm,BL⟩
 by_cases t5:F.blocks.length≤64
 case neg=>
  have HF:=fail0 ZO;clear fail0;go_enter Tryz.func85,Tryz.ntmps85;go_wp2;go_ret;exact⟨Yb HF.out.symm,BL⟩
 clear fail0
 have HN:=Lh (show Yj F=(Yax F.params 0&&vtB F 0&&btB F 0 0) by
  rw[Yhg,show Yc0 F=true by unfold Yc0;simp[t1,t2,t3,t4,t5]];rfl)
 go_enter Tryz.func85,Tryz.ntmps85;go_wp2
 go_loop[57] (fun i=>∃n:Nat,i=.int .i64 n∧n≤F.params.length∧Hid (Yax F.params 0=Yax (F.params.drop n) n)) (fun i=>F.params.length-(intOf i).toNat)
 case atStart=>exact⟨0,rfl,Nz _,by simp[Hid]⟩
 case round=>as_aux_lemma=>
  obtain⟨n,rfl,hn,hf⟩:=hrel
  by_cases hlt:n<F.params.length
  · skip
    obtain⟨b,off,rfl,hbb,hy⟩:=r1.int hW hlt;have hd:=Lh (YaI hlt)
    by_cases hp:ith F.params n=n
    · have HF:=Lh (show Yax F.params 0=Yax (F.params.drop (n+1)) (n+1) by rw[hf.out,hd.out,Yax,hp];simp)
      have hp':(ith F.params n !=(n:Int))=false:=by simpa using hp
      clear hp;go_wp2
      go_round
      case rel=>exact⟨n+1,ZN,ZO,HF⟩
      case measure=>simp[intOf];omega
    · skip
      have HF:=Lh (show Yj F=false by rw[HN.out,hf.out,hd.out,Yax];simp[hp]);have hp':(ith F.params n !=(n:Int))=true:=by simpa using hp
      clear hp;go_wp2;go_ret;exact⟨Yb HF.out.symm,BL⟩
  · have HV:=Lh (show Yj F=(vtB F 0&&btB F 0 0) by rw[HN.out,hf.out,List.drop_eq_nil_of_le ZO];rfl)
    clear HN hf;go_wp2
    go_loopw[69] (fun i wr=>∃n:Nat,i=.int .i64 n∧n≤F.vars.length∧Below (w.heap.size+1) (w.alloc (.cells #[.slice A0 F.vars.length c0,.slice A1 F.params.length c1,.slice A2 F.blocks.length c2] 26)) wr∧Hid (Yj F=(vtB F n&&btB F 0 0))) (fun i _=>F.vars.length-(intOf i).toNat)
    case atStart=>exact⟨0,rfl,Nz _,by simpa using Br _ _,HV⟩
    case round=>as_aux_lemma=>
     obtain⟨n,rfl,hn,hb,hf⟩:=hrel;have hB:=hb0.trans (hb.mono (Nat.le_succ _));have hWr:Below W.heap.size W wr:=hW.trans (hB.mono hWs);obtain⟨hq,hq0,hq1,hq2⟩:=Yn hb
     by_cases hlt:n<F.vars.length
     · skip
       obtain⟨b,off,rfl,hbs,hnz,hc,hc1⟩:=r0.var hWr hlt;have hst:=Lh (Ylg hlt);have hnm:=fun(w:World) (h:Below W.heap.size W w)=>YgI hU h (F.var n).name hnz
       cases hx:YaH (F.var n).name
       · skip
         have HF:=Lh (show Yj F=false by rw[hf.out,hst.out,hx];rfl);rw[hx]at hnm;clear hx;go_wp2_with(go_at_call 121;refine(hnm _ (hWr.trans BL)).mono ?_;(rintro e w1 ⟨rfl,hb1⟩;obtain⟨hc1,hf1⟩:=Ya hb1;have hz1:=hb1.size;try simp at hz1;try have hy1:=Nl hz1;try have hx1:=Ns hy1;try have hw1:=Ns hx1));go_ret;exact⟨Yb HF.out.symm,hB.trans BL⟩
       rw[hx]at hnm
       by_cases y0:(F.var n).ty<0
       · skip
         have HF:=Lh (show Yj F=false by rw[hf.out,hst.out,Yhi (.inl y0)];simp);clear hx;go_wp2_with(go_at_call 121;refine(hnm _ (hWr.trans BL)).mono ?_;(rintro e w1 ⟨rfl,hb1⟩;obtain⟨hc1,hf1⟩:=Ya hb1;have hz1:=hb1.size;try simp at hz1;try have hy1:=Nl hz1;try have hx1:=Ns hy1;try have hw1:=Ns hx1));go_ret;exact⟨Yb HF.out.symm,hB.trans BL⟩
       by_cases y1:2<(F.var n).ty
       · skip
         have HF:=Lh (show Yj F=false by rw[hf.out,hst.out,Yhi (.inr y1)];simp);clear hx;go_wp2_with(go_at_call 121;refine(hnm _ (hWr.trans BL)).mono ?_;(rintro e w1 ⟨rfl,hb1⟩;obtain⟨hc1,hf1⟩:=Ya hb1;have hz1:=hb1.size;try simp at hz1;try have hy1:=Nl hz1;try have hx1:=Ns hy1;try have hw1:=Ns hx1));go_ret;exact⟨Yb HF.out.symm,hB.trans BL⟩
       have HT:=Lh (show Yj F=(!(YR ((vnames F).take n) (F.var n).name)&&vtB F (n+1)&&btB F 0 0) by rw[hf.out,hst.out,hx,Yln ZO ZO];rfl);clear hx;go_wp2_with(go_at_call 121;refine(hnm _ (hWr.trans BL)).mono ?_;(rintro e w1 ⟨rfl,hb1⟩;obtain⟨hc1,hf1⟩:=Ya hb1;have hz1:=hb1.size;try simp at hz1;try have hy1:=Nl hz1;try have hx1:=Ns hy1;try have hw1:=Ns hx1));have hB1:Below wr.heap.size wr w1:=BL;have hV1:Below (wr.heap.size+1) (wr.alloc (.cells #[.string (F.var n).name,.int .i64 (F.var n).ty] 50)) w1:=by simpa using hb1
       obtain⟨wo,rfl⟩:∃wo:World,wo=w1:=⟨_,rfl⟩
       go_loopw[89] (fun i wr=>∃k:Nat,i=.int .i64 k∧k≤n∧Below wo.heap.size wo wr∧Hid (YR ((vnames F).take k) (F.var n).name=false)) (fun i _=>n-(intOf i).toNat)
       case atStart=>exact⟨0,rfl,Nz _,Br _ _,by simp[Hid,YR]⟩
       case round=>as_aux_lemma=>
        obtain⟨k,rfl,hk,hbi,hfi⟩:=hrel;obtain⟨hci,hgi⟩:=Ya hbi;have hzi:=hbi.size
        by_cases hkt:k<n
        · have hBi:=hB1.trans (hbi.mono hB1.size)
          have hWi:=hWr.trans (hBi.mono hWr.size);obtain⟨e3,e4,-⟩:=box2 (hV1.trans (hbi.mono (by simpa using hV1.size)));have e0:=(hBi.cell (p:=⟨w.heap.size,0,none⟩) hq).trans hq0;obtain⟨b',off',he,hbs',hnz',hck,hck1⟩:=r0.var hWi (i:=k) ZO;simp only[Option.some.injEq,Addr.mk.injEq,and_true]at he;obtain⟨rfl,rfl⟩:=he;have hms:=Lh (Yll (F:=F) (k:=k) ZO (F.var n).name);cases hse:((F.var k).name.toList==(F.var n).name.toList)
          · have HF:=Lh (show YR ((vnames F).take (k+1)) (F.var n).name=false by rw[hms.out,hfi.out,← Yeg,hse];rfl)
            go_wp2_with fail
            go_quiet (fail)
            go_wp2;go_roundw
            case rel=>exact⟨k+1,ZN,ZO,bdrewN hbi _,HF⟩
            case measure=>simp[intOf];omega
          · have HF:=Lh (show Yj F=false by
             rw[HT.out,Yhh (k:=k+1) ZO (by rw[hms.out,← Yeg,hse,Bool.or_true])];rfl)
            go_wp2_with fail
            go_quiet (fail)
            go_wp2;go_ret;exact⟨Yb HF.out.symm,hB.trans ((bdrewN hBi _).mono hB.size)⟩
        · obtain rfl:k=n:=by omega
          have HF:=Lh (show Yj F=(vtB F (k+1)&&btB F 0 0) by rw[HT.out,hfi.out];rfl);go_wp2;go_roundw
          case rel=>exact⟨k+1,ZN,ZO,hb.trans ((hB1.trans (hbi.mono hB1.size)).mono (by simpa using hb.size)),HF⟩
          case measure=>simp[intOf];omega
     · have HBt:=Lh (show Yj F=btB F 0 0 by rw[hf.out,Ylh ZO];rfl)
       clear hf;obtain⟨wv,rfl⟩:∃wv:World,wv=wr:=⟨_,rfl⟩;go_wp2
       go_loopw[10,109] (fun s i wr=>∃n q:Nat,s=.int .i64 q∧i=.int .i64 n∧n≤F.blocks.length∧q≤1024∧Below (w.heap.size+1) (w.alloc (.cells #[.slice A0 F.vars.length c0,.slice A1 F.params.length c1,.slice A2 F.blocks.length c2] 26)) wr∧Hid (Yj F=btB F n q)) (fun _ i _=>F.blocks.length-(intOf i).toNat)
       case atStart=>exact⟨0,0,rfl,rfl,Nz _,Nz _,hb,HBt⟩
       case round=>as_aux_lemma=>
        clear hWr hb hB hq hq0 hq1 hq2 hn;obtain⟨n,q,rfl,rfl,hn,hq,hb,hf⟩:=hrel;have hB:=hb0.trans (hb.mono (Nat.le_succ _));have hWr:Below W.heap.size W wr:=hW.trans (hB.mono hWs);obtain⟨hb1,hb2,hb3,hb4⟩:=Yn hb
        by_cases hlt2:n<F.blocks.length
        · obtain⟨bb,off,A3,c3,A4,c4,rfl,hbb,hnz,hy0,hy1,hy2,hy3,hy4,hy5,hy6,l3,l4,k3,k4,r3,r4⟩:=r2.blk hWr hlt2
          have hst:=Lh (Yli (s:=q) hlt2);have hnm:=fun(w:World) (h:Below W.heap.size W w)=>YgI hU h (F.blk n).name hnz
          have hsm:=s2 n hlt2;unfold Len at *;obtain⟨wq,rfl⟩:∃wq:World,wq=wr:=⟨_,rfl⟩;cases hx:YaH (F.blk n).name
          · have HF:=Lh (show Yj F=false by rw[hf.out,hst.out,hx];rfl)
            rw[hx]at hnm;clear hx;go_wp2_with(go_at_call 121;refine(hnm _ (hWr.trans BL)).mono ?_;(rintro e w5 ⟨rfl,hb5⟩;obtain⟨hc5,hf5⟩:=Ya hb5;have hz5:=hb5.size;try simp at hz5;try have hy5:=Nl hz5;try have hx5:=Ns hy5;try have hw5:=Ns hx5));go_ret;exact⟨Yb HF.out.symm,hB.trans BL⟩
          have HT:=Lh (show Yj F=(!(YR ((bnames F).take n) (F.blk n).name)&&YaJ F (F.blk n)&&btB F (n+1) (q+((F.blk n).phis.length+(F.blk n).insts.length))) by rw[hf.out,hst.out,hx];rfl);rw[hx]at hnm;clear hx hst hf;go_wp2_with(go_at_call 121;refine(hnm _ (hWr.trans BL)).mono ?_;(rintro e w5 ⟨rfl,hb5⟩;obtain⟨hc5,hf5⟩:=Ya hb5;have hz5:=hb5.size;try simp at hz5;try have hy5:=Nl hz5;try have hx5:=Ns hy5;try have hw5:=Ns hx5));have hB1:Below wq.heap.size wq w5:=BL;have hV1:Below (wq.heap.size+1) (wq.alloc (.cells #[.string (F.blk n).name,.slice A3 (F.blk n).phis.length c3,.slice A4 (F.blk n).insts.length c4,.int .i64 (F.blk n).term.kind,.int .i64 (F.blk n).term.var,.int .i64 (F.blk n).term.t0,.int .i64 (F.blk n).term.t1] 41)) w5:=by simpa using hb5
          obtain⟨wo,rfl⟩:∃wo:World,wo=w5:=⟨_,rfl⟩;clear hc5 hf5
          go_loopw[119] (fun i wr=>∃k:Nat,i=.int .i64 k∧k≤n∧Below wo.heap.size wo wr∧Hid (YR ((bnames F).take k) (F.blk n).name=false)) (fun i _=>n-(intOf i).toNat)
          case atStart=>exact⟨0,rfl,Nz _,Br _ _,by simp[Hid,YR]⟩
          case round=>as_aux_lemma=>
           obtain⟨k,rfl,hk,hbi,hfi⟩:=hrel;have hBi:=hB1.trans (hbi.mono hB1.size);have hWi:=hWr.trans (hBi.mono hWr.size);have hVi:=hV1.trans (hbi.mono (by simpa using hV1.size));obtain⟨e8,ex⟩:=Ycx hVi;have e0:wr.cell? ⟨wq.heap.size,0,none⟩=some (.string (F.blk n).name):=ex 0;have e9:=(hBi.cell (p:=⟨w.heap.size,2,none⟩) hb1).trans hb4
           by_cases hkt:k<n
           · skip
             obtain⟨b',off',A5,c5,A6,c6,he,hbb',-,hz0,-⟩:=r2.blk hWi (i:=k) ZO;simp only[Option.some.injEq,Addr.mk.injEq,and_true]at he;obtain⟨rfl,rfl⟩:=he;have hms:=Lh (Ylm (F:=F) (k:=k) ZO (F.blk n).name);clear ex;cases hse:((F.blk k).name.toList==(F.blk n).name.toList)
             · have HF:=Lh (show YR ((bnames F).take (k+1)) (F.blk n).name=false by rw[hms.out,hfi.out,← Yeg,hse];rfl)
               go_wp2_with fail
               go_quiet (fail)
               go_wp2;go_roundw
               case rel=>exact⟨k+1,ZN,ZO,bdrewN hbi _,HF⟩
               case measure=>simp[intOf];omega
             · have HF:=Lh (show Yj F=false by
                rw[HT.out,Yhh (k:=k+1) ZO (by rw[hms.out,← Yeg,hse,Bool.or_true])];rfl)
               go_wp2_with fail
               go_quiet (fail)
               go_wp2;go_ret;exact⟨Yb HF.out.symm,hB.trans ((bdrewN hBi _).mono hB.size)⟩
           · obtain rfl:k=n:=by omega
             have HB3:=Lh (show Yj F=(YaJ F (F.blk k)&&btB F (k+1) (q+((F.blk k).phis.length+(F.blk k).insts.length))) by rw[HT.out,hfi.out];rfl);have e1:wr.cell? ⟨wq.heap.size,1,none⟩=some (.slice A3 (F.blk k).phis.length c3):=ex 1;have e2:wr.cell? ⟨wq.heap.size,2,none⟩=some (.slice A4 (F.blk k).insts.length c4):=ex 2;have e3:wr.cell? ⟨wq.heap.size,3,none⟩=some (.int .i64 (F.blk k).term.kind):=ex 3;have e4:wr.cell? ⟨wq.heap.size,4,none⟩=some (.int .i64 (F.blk k).term.var):=ex 4;have e5:wr.cell? ⟨wq.heap.size,5,none⟩=some (.int .i64 (F.blk k).term.t0):=ex 5;have e6:wr.cell? ⟨wq.heap.size,6,none⟩=some (.int .i64 (F.blk k).term.t1):=ex 6;clear ex HT hfi hnm
             by_cases hov:q+((F.blk k).phis.length+(F.blk k).insts.length)≤1024
             case neg=>as_aux_lemma=>
              have HF:=Lh (show Yj F=false by rw[HB3.out,Ylk hov,Bool.and_false]);go_wp2;go_ret;exact⟨Yb HF.out.symm,hB.trans (hBi.mono hB.size)⟩
             have HB4:=Lh (show Yj F=((F.blk k).phis.all (YI F)&&(F.blk k).insts.all (Ym F)&&YJ F (F.blk k).term&&btB F (k+1) (q+((F.blk k).phis.length+(F.blk k).insts.length))) by rw[HB3.out,Ylr]);clear HB3;go_wp2;obtain⟨wp,rfl⟩:∃wp:World,wp=wr:=⟨_,rfl⟩
             go_loopw[146] (fun i wr=>∃j:Nat,i=.int .i64 j∧j≤(F.blk k).phis.length∧Below wp.heap.size wp wr∧Hid ((F.blk k).phis.all (YI F)=((F.blk k).phis.drop j).all (YI F))) (fun i _=>(F.blk k).phis.length-(intOf i).toNat)
             case atStart=>exact⟨0,rfl,Nz _,Br _ _,by simp[Hid]⟩
             case round=>as_aux_lemma=>
              obtain⟨j,rfl,hj,hbj,hfj⟩:=hrel;have hBj:=hBi.trans (hbj.mono hBi.size);have hWj:=hWr.trans (hBj.mono hWr.size)
              by_cases hjt:j<(F.blk k).phis.length
              · skip
                obtain⟨b5,off5,A5,c5,A6,c6,rfl,hbb5,hx0,hx1,hx2,l5,l6,k5,k6,r5,r6⟩:=r3.phi hWj hjt;have hdj:=Lh (Yds hjt);unfold Len at *;have hph:=Lh (Ylq F ((F.blk k).phi j));generalize (F.blk k).phi j=x at *;have failP:YI F x=false→Hid (Yj F=false):=fun h=>by rw[Hid,HB4.out,hfj.out,hdj.out,List.all_cons,h];rfl
                have v0:=fun w=>Ybb (w:=w) x.dst F.vars.length
                cases b0:inB x.dst F.vars.length
                · have HF:=failP (by rw[hph.out,b0];rfl)
                  rw[b0]at v0;clear b0 failP;go_wp2_with(go_at_call 122;refine(v0 _).mono ?_;rintro e w6 ⟨rfl,rfl⟩);go_ret;exact⟨Yb HF.out.symm,hB.trans ((hBj.trans BL).mono hB.size)⟩
                rw[b0]at v0
                by_cases u1:x.args.length=x.froms.length
                case neg=>as_aux_lemma=>
                 have u1':((x.args.length:Int) !=(x.froms.length:Int))=true:=by rw[bne_iff_ne];omega
                 have HF:=failP (by rw[hph.out,decide_eq_false u1];simp);clear b0 failP u1;go_wp2_with(go_at_call 122;refine(v0 _).mono ?_;rintro e w6 ⟨rfl,rfl⟩);go_ret;exact⟨Yb HF.out.symm,hB.trans ((hBj.trans BL).mono hB.size)⟩
                have u1':((x.args.length:Int) !=(x.froms.length:Int))=false:=by rw[bne_eq_false_iff_eq];omega
                have u1a:x.args.length≤x.froms.length:=by omega
                have u1b:x.froms.length≤x.args.length:=by omega
                by_cases u2:1≤x.args.length
                case neg=>as_aux_lemma=>
                 have HF:=failP (by rw[hph.out,decide_eq_false u2];simp);clear b0 failP u1;go_wp2_with(go_at_call 122;refine(v0 _).mono ?_;rintro e w6 ⟨rfl,rfl⟩);go_ret;exact⟨Yb HF.out.symm,hB.trans ((hBj.trans BL).mono hB.size)⟩
                have hph2:=Lh (show YI F x=Ybp F x 0 by rw[hph.out,b0,decide_eq_true u1,decide_eq_true u2];rfl);clear hph b0 u1;go_wp2_with(go_at_call 122;refine(v0 _).mono ?_;rintro e w6 ⟨rfl,rfl⟩)
                go_loop[173] (fun i=>∃m:Nat,i=.int .i64 m∧m≤x.args.length∧Hid (Ybp F x 0=Ybp F x m)) (fun i=>x.args.length-(intOf i).toNat)
                case atStart=>exact⟨0,rfl,Nz _,rfl⟩
                case round=>as_aux_lemma=>
                 obtain⟨m,rfl,hm,hfm⟩:=hrel
                 by_cases hmt:m<x.args.length
                 · have hmt2:m<x.froms.length:=by omega
                   obtain⟨b7,off7,rfl,hbb7,hm0⟩:=r5.int hWj hmt;obtain⟨b8,off8,rfl,hbb8,hm1⟩:=r6.int hWj hmt2;have hps:=Lh (Ylo (F:=F) hmt hmt2);have v1:=fun w=>Ybb (w:=w) (ith x.args m) F.vars.length
                   have v2:=fun w=>Ybb (w:=w) (ith x.froms m) F.blocks.length
                   cases b1:inB (ith x.args m) F.vars.length
                   · have HF:=failP (by rw[hph2.out,hfm.out,hps.out,b1];rfl)
                     rw[b1]at v1;clear b1 failP;go_wp2_with(go_at_call 122;refine(v1 _).mono ?_;rintro e w6 ⟨rfl,rfl⟩);go_ret;exact⟨Yb HF.out.symm,hB.trans ((hBj.trans BL).mono hB.size)⟩
                   rw[b1]at v1;cases b2:inB (ith x.froms m) F.blocks.length
                   · have HF:=failP (by rw[hph2.out,hfm.out,hps.out,b2];simp)
                     rw[b2]at v2;clear b1 b2 failP;go_wp2_with(go_at_call 122;first|(with_reducible refine(v1 _).mono ?_;rintro e w6 ⟨rfl,rfl⟩)|(with_reducible refine(v2 _).mono ?_;rintro e w6 ⟨rfl,rfl⟩));go_ret;exact⟨Yb HF.out.symm,hB.trans ((hBj.trans BL).mono hB.size)⟩
                   have HF:=Lh (show Ybp F x 0=Ybp F x (m+1) by rw[hfm.out,hps.out,b1,b2];rfl);rw[b2]at v2;clear b1 b2 failP;go_wp2_with(go_at_call 122;first|(with_reducible refine(v1 _).mono ?_;rintro e w6 ⟨rfl,rfl⟩)|(with_reducible refine(v2 _).mono ?_;rintro e w6 ⟨rfl,rfl⟩))
                   go_round
                   case rel=>exact⟨m+1,ZN,ZO,HF⟩
                   case measure=>simp[intOf];omega
                 · have HF:=Lh (show(F.blk k).phis.all (YI F)=((F.blk k).phis.drop (j+1)).all (YI F) by
                    rw[hfj.out,hdj.out,List.all_cons,hph2.out,hfm.out,Ylp ZO ZO];rfl)
                   clear failP;go_wp2;go_roundw
                   case rel=>exact⟨j+1,ZN,ZO,hbj.trans BL,HF⟩
                   case measure=>simp[intOf];omega
              · have HB5:=Lh (show Yj F=((F.blk k).insts.all (Ym F)&&YJ F (F.blk k).term&&btB F (k+1) (q+((F.blk k).phis.length+(F.blk k).insts.length))) by
                 rw[HB4.out,hfj.out,List.drop_eq_nil_of_le ZO];rfl)
                have e2j:=(hbj.cell (p:=⟨wq.heap.size,2,none⟩) e8).trans e2;have e3j:=(hbj.cell (p:=⟨wq.heap.size,3,none⟩) e8).trans e3;have e4j:=(hbj.cell (p:=⟨wq.heap.size,4,none⟩) e8).trans e4;have e5j:=(hbj.cell (p:=⟨wq.heap.size,5,none⟩) e8).trans e5;have e6j:=(hbj.cell (p:=⟨wq.heap.size,6,none⟩) e8).trans e6;have e8j:=Nt e8 hbj.size;clear HB4 hfj;go_wp2;obtain⟨wp2,rfl⟩:∃wp2:World,wp2=wr:=⟨_,rfl⟩
                go_loopw[199] (fun i wr=>∃j:Nat,i=.int .i64 j∧j≤(F.blk k).insts.length∧Below wp2.heap.size wp2 wr∧Hid ((F.blk k).insts.all (Ym F)=((F.blk k).insts.drop j).all (Ym F))) (fun i _=>(F.blk k).insts.length-(intOf i).toNat)
                case atStart=>exact⟨0,rfl,Nz _,Br _ _,by simp[Hid]⟩
                case round=>as_aux_lemma=>
                 clear hjt hj;obtain⟨j,rfl,hj,hby,hfj⟩:=hrel;have hBy:=hBj.trans (hby.mono hBj.size);have hWy:=hWr.trans (hBy.mono hWr.size)
                 by_cases hjt:j<(F.blk k).insts.length
                 · obtain⟨b5,off5,A5,c5,rfl,hbb5,hx0,hx1,hx2,hx3,l5,k5,r5⟩:=r4.inst hWy hjt
                   have hdj:=Lh (YcX hjt);unfold Len at *;generalize (F.blk k).inst j=x at *;have failI:Ym F x=false→Hid (Yj F=false):=fun h=>by rw[Hid,HB5.out,hfj.out,hdj.out,List.all_cons,h];rfl
                   by_cases o0:x.op<0
                   · have HF:=failI (by unfold Ym Yaq;rw[show inB x.op 27=false by unfold inB;simp;omega];rfl)
                     clear failI;go_wp2;go_ret;exact⟨Yb HF.out.symm,hB.trans ((hBy.trans BL).mono hB.size)⟩
                   by_cases o1:26<x.op
                   · have HF:=failI (by unfold Ym Yaq;rw[show inB x.op 27=false by unfold inB;simp;omega];rfl)
                     clear failI;go_wp2;go_ret;exact⟨Yb HF.out.symm,hB.trans ((hBy.trans BL).mono hB.size)⟩
                   obtain⟨o,ho⟩:∃o:Nat,x.op=o:=⟨x.op.toNat,ZO⟩;have ho27:o<27:=by omega
                   have ho28:(o:Int)<27:=by omega
                   obtain⟨⟨K1,K2,K3,K4,-⟩,-⟩:=Yhj o ho27;have HOp:=Lh ho;rw[ho]at hx0 o0 o1;clear ho;obtain⟨ws,rfl⟩:∃ws:World,ws=wr:=⟨_,rfl⟩
                   go_upto_region 55 with fail
                   go_cut[19] (fun s19 wx=>∃g:Nat,s19=.pointer (some ⟨g,0,none⟩)∧g<wx.heap.size∧wx.cell? ⟨g,0,none⟩=some (.string (bs (kindAt o).1))∧wx.cell? ⟨g,1,none⟩=some (.string (bs (kindAt o).2.1))∧wx.cell? ⟨g,2,none⟩=some (.string (bs (kindAt o).2.2))∧Below (ws.heap.size+1) (ws.alloc (.cells #[.int .i64 (o:Int),.int .i64 x.dst,.slice A5 x.args.length c5,.int .i64 x.num] 44)) wx)
                   case first=>as_aux_lemma=>
                    obtain⟨S0,hS0⟩:∃S0:World→Prop,S0=fun w'=>w'.cell? ⟨ws.heap.size,0,none⟩=some (.int .i64 (o:Int))∧Below (ws.heap.size+1) (ws.alloc (.cells #[.int .i64 (o:Int),.int .i64 x.dst,.slice A5 x.args.length c5,.int .i64 x.num] 44)) w'∧ws.heap.size<w'.heap.size:=⟨_,rfl⟩
                    have HS0:=Lh hS0;clear hS0;have k0:=fun xw=>(WS.at HS0 xw).1
                    have k1:=fun xw=>(WS.at HS0 xw).2.1
                    have k2:=fun xw=>(WS.at HS0 xw).2.2
                    refine Yhc (S:=S0) ZK ?hS (fun hSc=>?_)
                    case hS=>
                     rw[HS0.out];exact⟨ZI,BL,ZJ⟩
                    have hne0:Nonempty (WS S0):=⟨⟨_,hSc⟩⟩;refine YbO [(1,false),(2,false)] 5 rfl ZK (fun _ _ _ _ _ h=>h) hSc ?_
                    all_goals
                     (try simp only[List.map_cons,List.map_nil,Ld,Le])
                     repeat
                      first
                      |((with_reducible refine YbP ?_ ?_);exact rfl;dsimp only;go_big_quiet_step (fail);(try with_reducible refine wpQuiet_nil ?_);(try dsimp only))
                      |((with_reducible refine YbQ ?_ ?_ (fun K hK=>?_))
                        exact rfl;exact rfl;dsimp only;go_simp;(try go_wp2_with(go_at_call 87;refine Ybq.mono ?_;rintro e w9 ⟨rfl,hR9,hz9,hb9⟩;obtain⟨hc9,hf9⟩:=Ya hb9;obtain⟨hr0,hr1,hr2⟩:=hR9 o ho27;try simp at hz9;try simp only[heap_drew,World.size_alloc]at hr0 hr1 hr2));refine hK.out _ _ ?hS (fun hSc=>?_)
                        case hS=>
                         first
                         |exact hSc
                         |(rw[HS0.out]at hSc ⊢;obtain⟨p0,p1,p2⟩:=hSc;exact⟨ZC0,ZL1,ZT2⟩)
                         |(rw[HS0.out]at hSc ⊢;obtain⟨p0,p1,p2⟩:=hSc;exact⟨ZC,BL,ZT⟩)
                        clear hK K)
                     (try(refine YbR ?_;intro hSc))
                    refine Yee 0 5 4 rfl ZK hSc ?_ ?_
                    all_goals
                     (try simp only[Ld,Le])
                     repeat
                      first
                      |((with_reducible refine YbP ?_ ?_);exact rfl;dsimp only;go_big_quiet_step (fail);(try with_reducible refine wpQuiet_nil ?_);(try dsimp only))
                      |((with_reducible refine YbQ ?_ ?_ (fun K hK=>?_))
                        exact rfl;exact rfl;dsimp only;go_simp;(try go_wp2_with(go_at_call 87;refine Ybq.mono ?_;rintro e w9 ⟨rfl,hR9,hz9,hb9⟩;obtain⟨hc9,hf9⟩:=Ya hb9;obtain⟨hr0,hr1,hr2⟩:=hR9 o ho27;try simp at hz9;try simp only[heap_drew,World.size_alloc]at hr0 hr1 hr2));refine hK.out _ _ ?hS (fun hSc=>?_)
                        case hS=>
                         first
                         |exact hSc
                         |(rw[HS0.out]at hSc ⊢;obtain⟨p0,p1,p2⟩:=hSc;exact⟨ZC0,ZL1,ZT2⟩)
                         |(rw[HS0.out]at hSc ⊢;obtain⟨p0,p1,p2⟩:=hSc;exact⟨ZC,BL,ZT⟩)
                        clear hK K)
                     (try(refine YbR ?_;intro hSc))
                    refine YbO [(3,false)] 3 rfl ZK (fun _ _ _ _ _ h=>h) hSc ?_
                    rotate_left
                    refine YbO [(0,true),(3,false),(4,true),(6,true)] 0 rfl ZK (fun _ _ _ _ _ h=>h) hSc ?_
                    rotate_left
                    all_goals
                     (try simp only[List.map_cons,List.map_nil,Ld,Le])
                     repeat
                      first
                      |((with_reducible refine YbP ?_ ?_);exact rfl;dsimp only;go_big_quiet_step (fail);(try with_reducible refine wpQuiet_nil ?_);(try dsimp only))
                      |((with_reducible refine YbQ ?_ ?_ (fun K hK=>?_))
                        exact rfl;exact rfl;dsimp only;go_simp;(try go_wp2_with(go_at_call 87;refine Ybq.mono ?_;rintro e w9 ⟨rfl,hR9,hz9,hb9⟩;obtain⟨hc9,hf9⟩:=Ya hb9;obtain⟨hr0,hr1,hr2⟩:=hR9 o ho27;try simp at hz9;try simp only[heap_drew,World.size_alloc]at hr0 hr1 hr2));refine hK.out _ _ ?hS (fun hSc=>?_)
                        case hS=>
                         first
                         |exact hSc
                         |(rw[HS0.out]at hSc ⊢;obtain⟨p0,p1,p2⟩:=hSc;exact⟨ZC0,ZL1,ZT2⟩)
                         |(rw[HS0.out]at hSc ⊢;obtain⟨p0,p1,p2⟩:=hSc;exact⟨ZC,BL,ZT⟩)
                        clear hK K)
                     (try(refine YbR ?_;intro hSc))
                    refine Yee 4 5 2 rfl ZK hSc ?_ ?_
                    rotate_left 2
                    rotate_left
                    all_goals
                     (try simp only[Ld,Le])
                     repeat
                      first
                      |((with_reducible refine YbP ?_ ?_);exact rfl;dsimp only;go_big_quiet_step (fail);(try with_reducible refine wpQuiet_nil ?_);(try dsimp only))
                      |((with_reducible refine YbQ ?_ ?_ (fun K hK=>?_))
                        exact rfl;exact rfl;dsimp only;go_simp;(try go_wp2_with(go_at_call 87;refine Ybq.mono ?_;rintro e w9 ⟨rfl,hR9,hz9,hb9⟩;obtain⟨hc9,hf9⟩:=Ya hb9;obtain⟨hr0,hr1,hr2⟩:=hR9 o ho27;try simp at hz9;try simp only[heap_drew,World.size_alloc]at hr0 hr1 hr2));refine hK.out _ _ ?hS (fun hSc=>?_)
                        case hS=>
                         first
                         |exact hSc
                         |(rw[HS0.out]at hSc ⊢;obtain⟨p0,p1,p2⟩:=hSc;exact⟨ZC0,ZL1,ZT2⟩)
                         |(rw[HS0.out]at hSc ⊢;obtain⟨p0,p1,p2⟩:=hSc;exact⟨ZC,BL,ZT⟩)
                        clear hK K)
                     (try(refine YbR ?_;intro hSc))
                    refine YbO [(5,true),(6,true)] 0 rfl ZK (fun _ _ _ _ _ h=>h) hSc ?_
                    rotate_left
                    refine YbO [(4,true),(6,true)] 0 rfl ZK (fun _ _ _ _ _ h=>h) hSc ?_
                    rotate_left
                    rotate_left
                    all_goals
                     (try simp only[List.map_cons,List.map_nil,Ld,Le])
                     repeat
                      first
                      |((with_reducible refine YbP ?_ ?_);exact rfl;dsimp only;go_big_quiet_step (fail);(try with_reducible refine wpQuiet_nil ?_);(try dsimp only))
                      |((with_reducible refine YbQ ?_ ?_ (fun K hK=>?_))
                        exact rfl;exact rfl;dsimp only;go_simp;(try go_wp2_with(go_at_call 87;refine Ybq.mono ?_;rintro e w9 ⟨rfl,hR9,hz9,hb9⟩;obtain⟨hc9,hf9⟩:=Ya hb9;obtain⟨hr0,hr1,hr2⟩:=hR9 o ho27;try simp at hz9;try simp only[heap_drew,World.size_alloc]at hr0 hr1 hr2));refine hK.out _ _ ?hS (fun hSc=>?_)
                        case hS=>
                         first
                         |exact hSc
                         |(rw[HS0.out]at hSc ⊢;obtain⟨p0,p1,p2⟩:=hSc;exact⟨ZC0,ZL1,ZT2⟩)
                         |(rw[HS0.out]at hSc ⊢;obtain⟨p0,p1,p2⟩:=hSc;exact⟨ZC,BL,ZT⟩)
                        clear hK K)
                     (try(refine YbR ?_;intro hSc))
                    all_goals
                     refine Yhd ZK ?_;rw[HS0.out]at hSc;obtain⟨p0,p1,p2⟩:=hSc;clear hne0 HS0 k0 k1 k2
                    · go_wp2_with fail
                      go_meet
                      refine⟨_,rfl,?_,?_,?_,?_,p1⟩
                      · exact ZT
                      · exact ZS
                      · exact ZS
                      · exact ZS
                    · go_wp2_with fail
                      go_meet
                      refine⟨_,rfl,?_,?_,?_,?_,p1⟩
                      · exact ZT
                      · exact ZS
                      · exact ZS
                      · exact ZS
                    · go_wp2_with fail
                      go_meet
                      have z0:∀j,j<3→(w9.cell? ⟨ws.heap.size+1,j,none⟩).isSome=true:=by intro j hj;rw[hc9 _ _ ZS];rcases j with _|_|_|j<;>first|(simp;done)|omega
                      refine⟨_,rfl,?_,?_,?_,?_,p1⟩
                      · exact ZT
                      · exact(set3 z0).1
                      · exact(set3 z0).2.1
                      · exact(set3 z0).2.2
                   case rest=>as_aux_lemma=>
                    obtain⟨g,rfl,hg,g0,g1,g2,hbc⟩:=hcut;obtain⟨i8,ix⟩:=Ycx hbc;have i0:wc.cell? ⟨ws.heap.size,0,none⟩=some (.int .i64 (o:Int)):=ix 0;have i1:wc.cell? ⟨ws.heap.size,1,none⟩=some (.int .i64 x.dst):=ix 1;have i2:wc.cell? ⟨ws.heap.size,2,none⟩=some (.slice A5 x.args.length c5):=ix 2;have i3:wc.cell? ⟨ws.heap.size,3,none⟩=some (.int .i64 x.num):=ix 3;have hBc:Below ws.heap.size ws wc:=((Br _ _).alloc (Nr _) _).trans (hbc.mono (Nat.le_succ _));have bl:∀l:List UInt8,(bs l).toList=l:=fun l=>by simp[bs,Lib.toList_data]
                    have K1':(bs (kindAt o).2.1).size=(YM x.op).length:=by rw[HOp.out,← K1];simp[bs,ByteArray.size]
                    have K2':(bs (kindAt o).2.2).toList.isEmpty=!Yaf x.op:=by
                     rw[bl,HOp.out,Bool.eq_iff_iff];simp only[List.isEmpty_iff,Bool.not_eq_true'];exact K2
                    have K3':((bs (kindAt o).1).toList==[99,111,110,115,116])=decide (x.op=0):=by
                     rw[bl,HOp.out,Bool.eq_iff_iff];simp only[beq_iff_eq,decide_eq_true_eq];exact K3
                    have K4':((bs (kindAt o).1).toList==[112,105])=decide (x.op=25):=by
                     rw[bl,HOp.out,Bool.eq_iff_iff];simp only[beq_iff_eq,decide_eq_true_eq];exact K4
                    clear ix K1 K2 K3 K4 bl;generalize bs (kindAt o).1=sW at *;generalize bs (kindAt o).2.1=sT at *;generalize bs (kindAt o).2.2=sM at *;replace K1':=Lh K1';replace K2':=Lh K2';replace K3':=Lh K3';replace K4':=Lh K4';have v0:=fun w=>Ybb (w:=w) x.dst F.vars.length
                    by_cases u1:x.args.length=sT.size
                    case neg=>as_aux_lemma=>
                     have u1':((x.args.length:Int) !=(sT.size:Int))=true:=by rw[bne_iff_ne];omega
                     have HF:=failI (by unfold Ym;rw[← K1'.out,decide_eq_false u1];simp);clear failI u1 v0;go_wp2;go_ret;exact⟨Yb HF.out.symm,hB.trans ((hBy.trans (hBc.mono hBy.size)).mono hB.size)⟩
                    have u1':((x.args.length:Int) !=(sT.size:Int))=false:=by rw[bne_eq_false_iff_eq];omega
                    have HL:=Lh (show x.args.length=(YM x.op).length by rw[← K1'.out,u1])
                    have HI:=Lh (show Ym F x=(Yw F x.args&&YaX F x&&(decide (x.num=0)||decide (x.op=0∨x.op=25))) by
                     unfold Ym Yaq
                     rw[decide_eq_true HL.out,show inB x.op 27=true from YgJ ⟨by rw[HOp.out];omega,by rw[HOp.out];omega⟩];rfl)
                    clear u1;cases hM:Yaf x.op
                    · have m0:sM.toList.isEmpty=true:=by rw[K2'.out,hM];rfl
                      have HM:=Lh hM;clear hM
                      by_cases hd:x.dst=-1
                      case neg=>as_aux_lemma=>
                       have d0:(x.dst==-1)=false:=by simpa using hd
                       have HF:=failI (by rw[HI.out];unfold YaX;rw[HM.out];simp[hd]);clear failI hd v0;go_wp2;go_ret;exact⟨Yb HF.out.symm,hB.trans ((hBy.trans (hBc.mono hBy.size)).mono hB.size)⟩
                      have HD:=Lh (show YaX F x=true by unfold YaX;rw[HM.out];simp[hd]);have d0:(x.dst==-1)=true:=by simpa using hd
                      have d1:(x.dst !=-1)=false:=by simpa using hd
                      clear hd;have HI2a:=Lh (show Ym F x=(Yw F x.args&&(decide (x.num=0)||decide (x.op=0∨x.op=25))) by rw[HI.out,HD.out,Bool.and_true])
                      by_cases n0:x.num=0
                      · have HI2:=Lh (show Ym F x=Yw F x.args by rw[HI2a.out,decide_eq_true n0];simp)
                        have n1:(x.num !=0)=false:=by simpa using n0
                        clear n0;go_wp2_with(go_at_call 122;first|(with_reducible refine(v0 _).mono ?_;rintro e w6 ⟨rfl,rfl⟩))
                        go_loop[262] (fun i=>∃m:Nat,i=.int .i64 m∧m≤x.args.length∧Hid (Yw F x.args=(x.args.drop m).all fun v=>inB v F.vars.length)) (fun i=>x.args.length-(intOf i).toNat)
                        case atStart=>exact⟨0,rfl,Nz _,rfl⟩
                        case round=>as_aux_lemma=>
                         obtain⟨m,rfl,hm,hfm⟩:=hrel
                         by_cases hmt:m<x.args.length
                         · obtain⟨b7,off7,rfl,hbb7,hm0⟩:=r5.int (hWy.trans (hBc.mono hWy.size)) hmt
                           have hdm:=Lh (YaI hmt);have v1:=fun w=>Ybb (w:=w) (ith x.args m) F.vars.length
                           cases b1:inB (ith x.args m) F.vars.length
                           · have HF:=failI (by rw[HI2.out,hfm.out,hdm.out,List.all_cons,b1];rfl)
                             rw[b1]at v1;clear b1 failI;go_wp2_with(go_at_call 122;refine(v1 _).mono ?_;rintro e w6 ⟨rfl,rfl⟩);go_ret;exact⟨Yb HF.out.symm,hB.trans ((hBy.trans (hBc.mono hBy.size)).mono hB.size)⟩
                           · have HF:=Lh (show Yw F x.args=((x.args.drop (m+1)).all fun v=>inB v F.vars.length) by rw[hfm.out,hdm.out,List.all_cons,b1];rfl)
                             rw[b1]at v1;clear b1 failI;go_wp2_with(go_at_call 122;refine(v1 _).mono ?_;rintro e w6 ⟨rfl,rfl⟩)
                             go_round
                             case rel=>exact⟨m+1,ZN,ZO,HF⟩
                             case measure=>simp[intOf];omega
                         · have HF:=Lh (show(F.blk k).insts.all (Ym F)=((F.blk k).insts.drop (j+1)).all (Ym F) by
                            rw[hfj.out,hdj.out,List.all_cons,HI2.out,hfm.out,List.drop_eq_nil_of_le ZO];rfl)
                           clear failI;go_wp2;go_roundw
                           case rel=>first|exact⟨j+1,ZN,ZO,hby.trans (hBc.mono hby.size),HF⟩|((repeat apply Exists.intro);exact⟨⟨j+1,ZN,ZO,hby.trans (hBc.mono hby.size),HF⟩,rfl⟩)
                           case measure=>simp[intOf];omega
                      have n1:(x.num !=0)=true:=by simpa using n0
                      by_cases p0:x.op=0
                      · have HI2:=Lh (show Ym F x=Yw F x.args by rw[HI2a.out];simp[p0])
                        have p1:(sW.toList==[99,111,110,115,116])=true:=by rw[K3'.out,decide_eq_true p0]
                        have p2:(!sW.toList==[99,111,110,115,116])=false:=by rw[p1];rfl
                        clear p0 n0;go_wp2_with(go_at_call 122;first|(with_reducible refine(v0 _).mono ?_;rintro e w6 ⟨rfl,rfl⟩))
                        go_loop[262] (fun i=>∃m:Nat,i=.int .i64 m∧m≤x.args.length∧Hid (Yw F x.args=(x.args.drop m).all fun v=>inB v F.vars.length)) (fun i=>x.args.length-(intOf i).toNat)
                        case atStart=>exact⟨0,rfl,Nz _,rfl⟩
                        case round=>as_aux_lemma=>
                         obtain⟨m,rfl,hm,hfm⟩:=hrel
                         by_cases hmt:m<x.args.length
                         · obtain⟨b7,off7,rfl,hbb7,hm0⟩:=r5.int (hWy.trans (hBc.mono hWy.size)) hmt
                           have hdm:=Lh (YaI hmt);have v1:=fun w=>Ybb (w:=w) (ith x.args m) F.vars.length
                           cases b1:inB (ith x.args m) F.vars.length
                           · have HF:=failI (by rw[HI2.out,hfm.out,hdm.out,List.all_cons,b1];rfl)
                             rw[b1]at v1;clear b1 failI;go_wp2_with(go_at_call 122;refine(v1 _).mono ?_;rintro e w6 ⟨rfl,rfl⟩);go_ret;exact⟨Yb HF.out.symm,hB.trans ((hBy.trans (hBc.mono hBy.size)).mono hB.size)⟩
                           · have HF:=Lh (show Yw F x.args=((x.args.drop (m+1)).all fun v=>inB v F.vars.length) by rw[hfm.out,hdm.out,List.all_cons,b1];rfl)
                             rw[b1]at v1;clear b1 failI;go_wp2_with(go_at_call 122;refine(v1 _).mono ?_;rintro e w6 ⟨rfl,rfl⟩)
                             go_round
                             case rel=>exact⟨m+1,ZN,ZO,HF⟩
                             case measure=>simp[intOf];omega
                         · have HF:=Lh (show(F.blk k).insts.all (Ym F)=((F.blk k).insts.drop (j+1)).all (Ym F) by
                            rw[hfj.out,hdj.out,List.all_cons,HI2.out,hfm.out,List.drop_eq_nil_of_le ZO];rfl)
                           clear failI;go_wp2;go_roundw
                           case rel=>first|exact⟨j+1,ZN,ZO,hby.trans (hBc.mono hby.size),HF⟩|((repeat apply Exists.intro);exact⟨⟨j+1,ZN,ZO,hby.trans (hBc.mono hby.size),HF⟩,rfl⟩)
                           case measure=>simp[intOf];omega
                      have p1:(sW.toList==[99,111,110,115,116])=false:=by rw[K3'.out,decide_eq_false p0]
                      have p2:(!sW.toList==[99,111,110,115,116])=true:=by rw[p1];rfl
                      by_cases p3:x.op=25
                      · have HI2:=Lh (show Ym F x=Yw F x.args by rw[HI2a.out];simp[p3])
                        have p4:(sW.toList==[112,105])=true:=by rw[K4'.out,decide_eq_true p3]
                        have p5:(!sW.toList==[112,105])=false:=by rw[p4];rfl
                        clear p0 p3 n0;go_wp2_with(go_at_call 122;first|(with_reducible refine(v0 _).mono ?_;rintro e w6 ⟨rfl,rfl⟩))
                        go_loop[262] (fun i=>∃m:Nat,i=.int .i64 m∧m≤x.args.length∧Hid (Yw F x.args=(x.args.drop m).all fun v=>inB v F.vars.length)) (fun i=>x.args.length-(intOf i).toNat)
                        case atStart=>exact⟨0,rfl,Nz _,rfl⟩
                        case round=>as_aux_lemma=>
                         obtain⟨m,rfl,hm,hfm⟩:=hrel
                         by_cases hmt:m<x.args.length
                         · obtain⟨b7,off7,rfl,hbb7,hm0⟩:=r5.int (hWy.trans (hBc.mono hWy.size)) hmt
                           have hdm:=Lh (YaI hmt);have v1:=fun w=>Ybb (w:=w) (ith x.args m) F.vars.length
                           cases b1:inB (ith x.args m) F.vars.length
                           · have HF:=failI (by rw[HI2.out,hfm.out,hdm.out,List.all_cons,b1];rfl)
                             rw[b1]at v1;clear b1 failI;go_wp2_with(go_at_call 122;refine(v1 _).mono ?_;rintro e w6 ⟨rfl,rfl⟩);go_ret;exact⟨Yb HF.out.symm,hB.trans ((hBy.trans (hBc.mono hBy.size)).mono hB.size)⟩
                           · have HF:=Lh (show Yw F x.args=((x.args.drop (m+1)).all fun v=>inB v F.vars.length) by rw[hfm.out,hdm.out,List.all_cons,b1];rfl)
                             rw[b1]at v1;clear b1 failI;go_wp2_with(go_at_call 122;refine(v1 _).mono ?_;rintro e w6 ⟨rfl,rfl⟩)
                             go_round
                             case rel=>exact⟨m+1,ZN,ZO,HF⟩
                             case measure=>simp[intOf];omega
                         · have HF:=Lh (show(F.blk k).insts.all (Ym F)=((F.blk k).insts.drop (j+1)).all (Ym F) by
                            rw[hfj.out,hdj.out,List.all_cons,HI2.out,hfm.out,List.drop_eq_nil_of_le ZO];rfl)
                           clear failI;go_wp2;go_roundw
                           case rel=>first|exact⟨j+1,ZN,ZO,hby.trans (hBc.mono hby.size),HF⟩|((repeat apply Exists.intro);exact⟨⟨j+1,ZN,ZO,hby.trans (hBc.mono hby.size),HF⟩,rfl⟩)
                           case measure=>simp[intOf];omega
                      have p4:(sW.toList==[112,105])=false:=by rw[K4'.out,decide_eq_false p3]
                      have p5:(!sW.toList==[112,105])=true:=by rw[p4];rfl
                      have HF:=failI (by rw[HI2a.out];simp[n0,p0,p3]);clear failI p0 p3 n0;go_wp2_with(go_at_call 122;first|(with_reducible refine(v0 _).mono ?_;rintro e w6 ⟨rfl,rfl⟩));go_ret;exact⟨Yb HF.out.symm,hB.trans ((hBy.trans (hBc.mono hBy.size)).mono hB.size)⟩
                    · have m0:sM.toList.isEmpty=false:=by rw[K2'.out,hM];rfl
                      have HM:=Lh hM;clear hM
                      by_cases hd:x.dst=-1
                      · have d0:(x.dst==-1)=true:=by simpa using hd
                        have HF:=failI (by rw[HI.out];unfold YaX;rw[HM.out,hd];simp[inB]);clear failI hd v0;go_wp2;go_ret;exact⟨Yb HF.out.symm,hB.trans ((hBy.trans (hBc.mono hBy.size)).mono hB.size)⟩
                      have d0:(x.dst==-1)=false:=by simpa using hd
                      have d1:(x.dst !=-1)=true:=by simpa using hd
                      clear hd;cases b0:inB x.dst F.vars.length
                      · have HF:=failI (by rw[HI.out];unfold YaX;rw[HM.out,if_pos rfl,b0];simp)
                        rw[b0]at v0;clear failI b0;go_wp2_with(go_at_call 122;first|(with_reducible refine(v0 _).mono ?_;rintro e w6 ⟨rfl,rfl⟩));go_ret;exact⟨Yb HF.out.symm,hB.trans ((hBy.trans (hBc.mono hBy.size)).mono hB.size)⟩
                      have HD:=Lh (show YaX F x=true by unfold YaX;rw[HM.out,if_pos rfl,b0]);rw[b0]at v0;clear b0;have HI2a:=Lh (show Ym F x=(Yw F x.args&&(decide (x.num=0)||decide (x.op=0∨x.op=25))) by rw[HI.out,HD.out,Bool.and_true])
                      by_cases n0:x.num=0
                      · have HI2:=Lh (show Ym F x=Yw F x.args by rw[HI2a.out,decide_eq_true n0];simp)
                        have n1:(x.num !=0)=false:=by simpa using n0
                        clear n0;go_wp2_with(go_at_call 122;first|(with_reducible refine(v0 _).mono ?_;rintro e w6 ⟨rfl,rfl⟩))
                        go_loop[262] (fun i=>∃m:Nat,i=.int .i64 m∧m≤x.args.length∧Hid (Yw F x.args=(x.args.drop m).all fun v=>inB v F.vars.length)) (fun i=>x.args.length-(intOf i).toNat)
                        case atStart=>exact⟨0,rfl,Nz _,rfl⟩
                        case round=>as_aux_lemma=>
                         obtain⟨m,rfl,hm,hfm⟩:=hrel
                         by_cases hmt:m<x.args.length
                         · obtain⟨b7,off7,rfl,hbb7,hm0⟩:=r5.int (hWy.trans (hBc.mono hWy.size)) hmt
                           have hdm:=Lh (YaI hmt);have v1:=fun w=>Ybb (w:=w) (ith x.args m) F.vars.length
                           cases b1:inB (ith x.args m) F.vars.length
                           · have HF:=failI (by rw[HI2.out,hfm.out,hdm.out,List.all_cons,b1];rfl)
                             rw[b1]at v1;clear b1 failI;go_wp2_with(go_at_call 122;refine(v1 _).mono ?_;rintro e w6 ⟨rfl,rfl⟩);go_ret;exact⟨Yb HF.out.symm,hB.trans ((hBy.trans (hBc.mono hBy.size)).mono hB.size)⟩
                           · have HF:=Lh (show Yw F x.args=((x.args.drop (m+1)).all fun v=>inB v F.vars.length) by rw[hfm.out,hdm.out,List.all_cons,b1];rfl)
                             rw[b1]at v1;clear b1 failI;go_wp2_with(go_at_call 122;refine(v1 _).mono ?_;rintro e w6 ⟨rfl,rfl⟩)
                             go_round
                             case rel=>exact⟨m+1,ZN,ZO,HF⟩
                             case measure=>simp[intOf];omega
                         · have HF:=Lh (show(F.blk k).insts.all (Ym F)=((F.blk k).insts.drop (j+1)).all (Ym F) by
                            rw[hfj.out,hdj.out,List.all_cons,HI2.out,hfm.out,List.drop_eq_nil_of_le ZO];rfl)
                           clear failI;go_wp2;go_roundw
                           case rel=>first|exact⟨j+1,ZN,ZO,hby.trans (hBc.mono hby.size),HF⟩|((repeat apply Exists.intro);exact⟨⟨j+1,ZN,ZO,hby.trans (hBc.mono hby.size),HF⟩,rfl⟩)
                           case measure=>simp[intOf];omega
                      have n1:(x.num !=0)=true:=by simpa using n0
                      by_cases p0:x.op=0
                      · have HI2:=Lh (show Ym F x=Yw F x.args by rw[HI2a.out];simp[p0])
                        have p1:(sW.toList==[99,111,110,115,116])=true:=by rw[K3'.out,decide_eq_true p0]
                        have p2:(!sW.toList==[99,111,110,115,116])=false:=by rw[p1];rfl
                        clear p0 n0;go_wp2_with(go_at_call 122;first|(with_reducible refine(v0 _).mono ?_;rintro e w6 ⟨rfl,rfl⟩))
                        go_loop[262] (fun i=>∃m:Nat,i=.int .i64 m∧m≤x.args.length∧Hid (Yw F x.args=(x.args.drop m).all fun v=>inB v F.vars.length)) (fun i=>x.args.length-(intOf i).toNat)
                        case atStart=>exact⟨0,rfl,Nz _,rfl⟩
                        case round=>as_aux_lemma=>
                         obtain⟨m,rfl,hm,hfm⟩:=hrel
                         by_cases hmt:m<x.args.length
                         · obtain⟨b7,off7,rfl,hbb7,hm0⟩:=r5.int (hWy.trans (hBc.mono hWy.size)) hmt
                           have hdm:=Lh (YaI hmt);have v1:=fun w=>Ybb (w:=w) (ith x.args m) F.vars.length
                           cases b1:inB (ith x.args m) F.vars.length
                           · have HF:=failI (by rw[HI2.out,hfm.out,hdm.out,List.all_cons,b1];rfl)
                             rw[b1]at v1;clear b1 failI;go_wp2_with(go_at_call 122;refine(v1 _).mono ?_;rintro e w6 ⟨rfl,rfl⟩);go_ret;exact⟨Yb HF.out.symm,hB.trans ((hBy.trans (hBc.mono hBy.size)).mono hB.size)⟩
                           · have HF:=Lh (show Yw F x.args=((x.args.drop (m+1)).all fun v=>inB v F.vars.length) by rw[hfm.out,hdm.out,List.all_cons,b1];rfl)
                             rw[b1]at v1;clear b1 failI;go_wp2_with(go_at_call 122;refine(v1 _).mono ?_;rintro e w6 ⟨rfl,rfl⟩)
                             go_round
                             case rel=>exact⟨m+1,ZN,ZO,HF⟩
                             case measure=>simp[intOf];omega
                         · have HF:=Lh (show(F.blk k).insts.all (Ym F)=((F.blk k).insts.drop (j+1)).all (Ym F) by
                            rw[hfj.out,hdj.out,List.all_cons,HI2.out,hfm.out,List.drop_eq_nil_of_le ZO];rfl)
                           clear failI;go_wp2;go_roundw
                           case rel=>first|exact⟨j+1,ZN,ZO,hby.trans (hBc.mono hby.size),HF⟩|((repeat apply Exists.intro);exact⟨⟨j+1,ZN,ZO,hby.trans (hBc.mono hby.size),HF⟩,rfl⟩)
                           case measure=>simp[intOf];omega
                      have p1:(sW.toList==[99,111,110,115,116])=false:=by rw[K3'.out,decide_eq_false p0]
                      have p2:(!sW.toList==[99,111,110,115,116])=true:=by rw[p1];rfl
                      by_cases p3:x.op=25
                      · have HI2:=Lh (show Ym F x=Yw F x.args by rw[HI2a.out];simp[p3])
                        have p4:(sW.toList==[112,105])=true:=by rw[K4'.out,decide_eq_true p3]
                        have p5:(!sW.toList==[112,105])=false:=by rw[p4];rfl
                        clear p0 p3 n0;go_wp2_with(go_at_call 122;first|(with_reducible refine(v0 _).mono ?_;rintro e w6 ⟨rfl,rfl⟩))
                        go_loop[262] (fun i=>∃m:Nat,i=.int .i64 m∧m≤x.args.length∧Hid (Yw F x.args=(x.args.drop m).all fun v=>inB v F.vars.length)) (fun i=>x.args.length-(intOf i).toNat)
                        case atStart=>exact⟨0,rfl,Nz _,rfl⟩
                        case round=>as_aux_lemma=>
                         obtain⟨m,rfl,hm,hfm⟩:=hrel
                         by_cases hmt:m<x.args.length
                         · obtain⟨b7,off7,rfl,hbb7,hm0⟩:=r5.int (hWy.trans (hBc.mono hWy.size)) hmt
                           have hdm:=Lh (YaI hmt);have v1:=fun w=>Ybb (w:=w) (ith x.args m) F.vars.length
                           cases b1:inB (ith x.args m) F.vars.length
                           · have HF:=failI (by rw[HI2.out,hfm.out,hdm.out,List.all_cons,b1];rfl)
                             rw[b1]at v1;clear b1 failI;go_wp2_with(go_at_call 122;refine(v1 _).mono ?_;rintro e w6 ⟨rfl,rfl⟩);go_ret;exact⟨Yb HF.out.symm,hB.trans ((hBy.trans (hBc.mono hBy.size)).mono hB.size)⟩
                           · have HF:=Lh (show Yw F x.args=((x.args.drop (m+1)).all fun v=>inB v F.vars.length) by rw[hfm.out,hdm.out,List.all_cons,b1];rfl)
                             rw[b1]at v1;clear b1 failI;go_wp2_with(go_at_call 122;refine(v1 _).mono ?_;rintro e w6 ⟨rfl,rfl⟩)
                             go_round
                             case rel=>exact⟨m+1,ZN,ZO,HF⟩
                             case measure=>simp[intOf];omega
                         · have HF:=Lh (show(F.blk k).insts.all (Ym F)=((F.blk k).insts.drop (j+1)).all (Ym F) by
                            rw[hfj.out,hdj.out,List.all_cons,HI2.out,hfm.out,List.drop_eq_nil_of_le ZO];rfl)
                           clear failI;go_wp2;go_roundw
                           case rel=>first|exact⟨j+1,ZN,ZO,hby.trans (hBc.mono hby.size),HF⟩|((repeat apply Exists.intro);exact⟨⟨j+1,ZN,ZO,hby.trans (hBc.mono hby.size),HF⟩,rfl⟩)
                           case measure=>simp[intOf];omega
                      have p4:(sW.toList==[112,105])=false:=by rw[K4'.out,decide_eq_false p3]
                      have p5:(!sW.toList==[112,105])=true:=by rw[p4];rfl
                      have HF:=failI (by rw[HI2a.out];simp[n0,p0,p3]);clear failI p0 p3 n0;go_wp2_with(go_at_call 122;first|(with_reducible refine(v0 _).mono ?_;rintro e w6 ⟨rfl,rfl⟩));go_ret;exact⟨Yb HF.out.symm,hB.trans ((hBy.trans (hBc.mono hBy.size)).mono hB.size)⟩
                 · have HB6:=Lh (show Yj F=(YJ F (F.blk k).term&&btB F (k+1) (q+((F.blk k).phis.length+(F.blk k).insts.length))) by
                    rw[HB5.out,hfj.out,List.drop_eq_nil_of_le ZO];rfl)
                   have y3:=(hby.cell (p:=⟨wq.heap.size,3,none⟩) e8j).trans e3j;have y4:=(hby.cell (p:=⟨wq.heap.size,4,none⟩) e8j).trans e4j;have y5:=(hby.cell (p:=⟨wq.heap.size,5,none⟩) e8j).trans e5j;have y6:=(hby.cell (p:=⟨wq.heap.size,6,none⟩) e8j).trans e6j
                   have HTM:=Lh (show YJ F (F.blk k).term=if(F.blk k).term.kind=0 then inB (F.blk k).term.t0 F.blocks.length&&decide ((F.blk k).term.t1=0)&&decide ((F.blk k).term.var=0)
                    else if(F.blk k).term.kind=1 then inB (F.blk k).term.var F.vars.length&&inB (F.blk k).term.t0 F.blocks.length&&inB (F.blk k).term.t1 F.blocks.length
                    else if(F.blk k).term.kind=2 then inB (F.blk k).term.var F.vars.length&&(decide ((F.blk k).term.t0=0)&&decide ((F.blk k).term.t1=0)) else false from rfl)
                   clear HB5 hfj e3j e4j e5j e6j e3 e4 e5 e6;generalize (F.blk k).term.kind=kd at *;generalize (F.blk k).term.var=tv at *;generalize (F.blk k).term.t0=t0 at *;generalize (F.blk k).term.t1=t1 at *;have hBz:=hB.trans (hBy.mono hB.size);have v0:=fun w=>Ybb (w:=w) tv F.vars.length
                   have v1:=fun w=>Ybb (w:=w) t0 F.blocks.length
                   have v2:=fun w=>Ybb (w:=w) t1 F.blocks.length
                   have failT:YJ F (F.blk k).term=false→Hid (Yj F=false):=fun h=>by rw[Hid,HB6.out,h];rfl
                   have passT:YJ F (F.blk k).term=true→Hid (Yj F=btB F (k+1) (q+((F.blk k).phis.length+(F.blk k).insts.length))):=fun h=>by rw[Hid,HB6.out,h];rfl
                   clear HB6
                   by_cases k0:kd=0
                   · subst k0
                     have HK:=Lh (show YJ F (F.blk k).term=(inB t0 F.blocks.length&&decide (t1=0)&&decide (tv=0)) by rw[HTM.out,if_pos rfl]);cases b0:inB t0 F.blocks.length
                     · skip
                       have HF:=failT (by rw[HK.out,b0];rfl);rw[b0]at v1;clear failT passT b0;go_wp2_with(go_at_call 122;first|(with_reducible refine(v0 _).mono ?_;rintro e w6 ⟨rfl,rfl⟩)|(with_reducible refine(v1 _).mono ?_;rintro e w6 ⟨rfl,rfl⟩)|(with_reducible refine(v2 _).mono ?_;rintro e w6 ⟨rfl,rfl⟩));go_ret;exact⟨Yb HF.out.symm,hBz.trans BL⟩
                     by_cases h1:t1=0
                     case neg=>as_aux_lemma=>
                      have h1':(t1==0)=false:=by simpa using h1
                      have HF:=failT (by rw[HK.out];simp[h1]);rw[b0]at v1;clear failT passT b0 h1;go_wp2_with(go_at_call 122;first|(with_reducible refine(v0 _).mono ?_;rintro e w6 ⟨rfl,rfl⟩)|(with_reducible refine(v1 _).mono ?_;rintro e w6 ⟨rfl,rfl⟩)|(with_reducible refine(v2 _).mono ?_;rintro e w6 ⟨rfl,rfl⟩));go_ret;exact⟨Yb HF.out.symm,hBz.trans BL⟩
                     have h1':(t1==0)=true:=by simpa using h1
                     by_cases h2:tv=0
                     case neg=>as_aux_lemma=>
                      have h2':(tv==0)=false:=by simpa using h2
                      have HF:=failT (by rw[HK.out];simp[h2]);rw[b0]at v1;clear failT passT b0 h1 h2;go_wp2_with(go_at_call 122;first|(with_reducible refine(v0 _).mono ?_;rintro e w6 ⟨rfl,rfl⟩)|(with_reducible refine(v1 _).mono ?_;rintro e w6 ⟨rfl,rfl⟩)|(with_reducible refine(v2 _).mono ?_;rintro e w6 ⟨rfl,rfl⟩));go_ret;exact⟨Yb HF.out.symm,hBz.trans BL⟩
                     have h2':(tv==0)=true:=by simpa using h2
                     have HF:=passT (by rw[HK.out,b0,h1,h2];rfl);rw[b0]at v1;clear failT passT b0 h1 h2;go_wp2_with(go_at_call 122;first|(with_reducible refine(v0 _).mono ?_;rintro e w6 ⟨rfl,rfl⟩)|(with_reducible refine(v1 _).mono ?_;rintro e w6 ⟨rfl,rfl⟩)|(with_reducible refine(v2 _).mono ?_;rintro e w6 ⟨rfl,rfl⟩));go_roundw
                     case rel=>exact⟨k+1,q+((F.blk k).phis.length+(F.blk k).insts.length),ZN,ZN,ZO,ZO,hb.trans ((hBy.trans BL).mono (by simpa using hb.size)),HF⟩
                     case measure=>simp[intOf];omega
                   have k0':(kd==0)=false:=by simpa using k0
                   by_cases k1:kd=1
                   · subst k1
                     have HK:=Lh (show YJ F (F.blk k).term=(inB tv F.vars.length&&inB t0 F.blocks.length&&inB t1 F.blocks.length) by rw[HTM.out,if_neg ZD,if_pos rfl]);clear k0 k0';cases b0:inB tv F.vars.length
                     · skip
                       have HF:=failT (by rw[HK.out,b0];rfl);rw[b0]at v0;clear failT passT b0;go_wp2_with(go_at_call 122;first|(with_reducible refine(v0 _).mono ?_;rintro e w6 ⟨rfl,rfl⟩)|(with_reducible refine(v1 _).mono ?_;rintro e w6 ⟨rfl,rfl⟩)|(with_reducible refine(v2 _).mono ?_;rintro e w6 ⟨rfl,rfl⟩));go_ret;exact⟨Yb HF.out.symm,hBz.trans BL⟩
                     cases b1:inB t0 F.blocks.length
                     · skip
                       have HF:=failT (by rw[HK.out,b1];simp);rw[b0]at v0;rw[b1]at v1;clear failT passT b0 b1;go_wp2_with(go_at_call 122;first|(with_reducible refine(v0 _).mono ?_;rintro e w6 ⟨rfl,rfl⟩)|(with_reducible refine(v1 _).mono ?_;rintro e w6 ⟨rfl,rfl⟩)|(with_reducible refine(v2 _).mono ?_;rintro e w6 ⟨rfl,rfl⟩));go_ret;exact⟨Yb HF.out.symm,hBz.trans BL⟩
                     cases b2:inB t1 F.blocks.length
                     · skip
                       have HF:=failT (by rw[HK.out,b2];simp);rw[b0]at v0;rw[b1]at v1;rw[b2]at v2;clear failT passT b0 b1 b2;go_wp2_with(go_at_call 122;first|(with_reducible refine(v0 _).mono ?_;rintro e w6 ⟨rfl,rfl⟩)|(with_reducible refine(v1 _).mono ?_;rintro e w6 ⟨rfl,rfl⟩)|(with_reducible refine(v2 _).mono ?_;rintro e w6 ⟨rfl,rfl⟩));go_ret;exact⟨Yb HF.out.symm,hBz.trans BL⟩
                     · skip
                       have HF:=passT (by rw[HK.out,b0,b1,b2];rfl);rw[b0]at v0;rw[b1]at v1;rw[b2]at v2;clear failT passT b0 b1 b2;go_wp2_with(go_at_call 122;first|(with_reducible refine(v0 _).mono ?_;rintro e w6 ⟨rfl,rfl⟩)|(with_reducible refine(v1 _).mono ?_;rintro e w6 ⟨rfl,rfl⟩)|(with_reducible refine(v2 _).mono ?_;rintro e w6 ⟨rfl,rfl⟩));go_roundw
                       case rel=>exact⟨k+1,q+((F.blk k).phis.length+(F.blk k).insts.length),ZN,ZN,ZO,ZO,hb.trans ((hBy.trans BL).mono (by simpa using hb.size)),HF⟩
                       case measure=>simp[intOf];omega
                   have k1':(kd==1)=false:=by simpa using k1
                   by_cases k2:kd=2
                   · subst k2
                     have HK:=Lh (show YJ F (F.blk k).term=(inB tv F.vars.length&&(decide (t0=0)&&decide (t1=0))) by rw[HTM.out,if_neg ZD,if_neg ZD,if_pos rfl]);clear k0 k0' k1 k1';have heq:=YgW t0 t1 0 0;have hgd:=YgV;cases b0:inB tv F.vars.length
                     · skip
                       have HF:=failT (by rw[HK.out,b0];rfl);rw[b0]at v0;clear failT passT b0;go_wp2_with(go_at_call 122;first|(with_reducible refine(v0 _).mono ?_;rintro e w6 ⟨rfl,rfl⟩)|(with_reducible refine(v1 _).mono ?_;rintro e w6 ⟨rfl,rfl⟩)|(with_reducible refine(v2 _).mono ?_;rintro e w6 ⟨rfl,rfl⟩));go_ret;exact⟨Yb HF.out.symm,hBz.trans BL⟩
                     by_cases h1:t0=0
                     case neg=>as_aux_lemma=>
                      have h1':(t0==0)=false:=by simpa using h1
                      have HF:=failT (by rw[HK.out];simp[h1]);rw[b0]at v0;clear failT passT b0 h1;go_wp2_with(go_at_call 122;first|(with_reducible refine(v0 _).mono ?_;rintro e w6 ⟨rfl,rfl⟩)|(with_reducible refine(v1 _).mono ?_;rintro e w6 ⟨rfl,rfl⟩)|(with_reducible refine(v2 _).mono ?_;rintro e w6 ⟨rfl,rfl⟩));go_ret;exact⟨Yb HF.out.symm,hBz.trans BL⟩
                     have h1':(t0==0)=true:=by simpa using h1
                     by_cases h2:t1=0
                     case neg=>as_aux_lemma=>
                      have h2':(t1==0)=false:=by simpa using h2
                      have HF:=failT (by rw[HK.out];simp[h2]);rw[b0]at v0;clear failT passT b0 h1 h2;go_wp2_with(go_at_call 122;first|(with_reducible refine(v0 _).mono ?_;rintro e w6 ⟨rfl,rfl⟩)|(with_reducible refine(v1 _).mono ?_;rintro e w6 ⟨rfl,rfl⟩)|(with_reducible refine(v2 _).mono ?_;rintro e w6 ⟨rfl,rfl⟩));go_ret;exact⟨Yb HF.out.symm,hBz.trans BL⟩
                     have h2':(t1==0)=true:=by simpa using h2
                     have HF:=passT (by rw[HK.out,b0,h1,h2];rfl);rw[b0]at v0;clear failT passT b0 h1 h2;go_wp2_with(go_at_call 122;first|(with_reducible refine(v0 _).mono ?_;rintro e w6 ⟨rfl,rfl⟩)|(with_reducible refine(v1 _).mono ?_;rintro e w6 ⟨rfl,rfl⟩)|(with_reducible refine(v2 _).mono ?_;rintro e w6 ⟨rfl,rfl⟩));go_roundw
                     case rel=>exact⟨k+1,q+((F.blk k).phis.length+(F.blk k).insts.length),ZN,ZN,ZO,ZO,hb.trans ((hBy.trans BL).mono (by simpa using hb.size)),HF⟩
                     case measure=>simp[intOf];omega
                   have k2':(kd==2)=false:=by simpa using k2
                   have HF:=failT (by rw[HTM.out,if_neg k0,if_neg k1,if_neg k2]);clear failT passT k0 k1 k2;go_wp2_with(go_at_call 122;first|(with_reducible refine(v0 _).mono ?_;rintro e w6 ⟨rfl,rfl⟩)|(with_reducible refine(v1 _).mono ?_;rintro e w6 ⟨rfl,rfl⟩)|(with_reducible refine(v2 _).mono ?_;rintro e w6 ⟨rfl,rfl⟩));go_ret;exact⟨Yb HF.out.symm,hBz.trans BL⟩
        · have HF:=Lh (show Yj F=true by rw[hf.out,Ylj ZO hq])
          go_wp2;go_ret;exact⟨Yb HF.out.symm,hB⟩
end Go.Proofs.YtjlclkcmfokobaaGreatDoor
