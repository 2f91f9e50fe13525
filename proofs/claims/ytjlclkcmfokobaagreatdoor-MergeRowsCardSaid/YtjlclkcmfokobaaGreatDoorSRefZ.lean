/- The walks of ref16.Maker and ref16.makings. -/
import Derived.Test.YtjlclkcmfokobaaGreatDoorMkRowsZ
import Derived.Test.YtjlclkcmfokobaaGreatDoorJoinQZ
import Derived.Test.YtjlclkcmfokobaaGreatDoorSBeZ
import Derived.Test.YtjlclkcmfokobaaGreatDoorZedZ
namespace Go.Proofs.YtjlclkcmfokobaaGreatDoor
open Go.RowKit
set_option maxRecDepth 100000
set_option maxHeartbeats 8000000 in
theorem YiM{W w:World}{fv:Value}{F:PFunc}(hF:FnV W W.heap.size fv F)(hW:Below W.heap.size W w)(hT:Yd F=true)(v:Int) :
 Calls Tryz.prog 89 #[fv,.int .i64 v] w fun e w'=>e=.returned (.tuple #[.int .i64 (Yi F v).1,.int .i64 (Yi F v).2])∧Below w.heap.size w w':=by
 have hWs:=hW.size;obtain⟨n1,n2⟩:=Y1 (Yx hT);have HTP:=Lh (fun n (hn:n<F.blocks.length)=>Yep hT hn);clear hT;obtain⟨A0,c0,A1,c1,A2,c2,rfl,l0,l1,l2,-,-,-,r0,r1,r2⟩:=id hF.open_;unfold Len at *;have hb0:=(Br w.heap.size w).alloc (Nr _) (.cells #[.slice A0 F.vars.length c0,.slice A1 F.params.length c1,.slice A2 F.blocks.length c2] 26)
 have HP:=Lh (fun n k (hn:n<F.blocks.length) (hk:k<(F.blk n).phis.length) (h1:mkOf (evs F n++evPhi F n k) v=[]) (h2:((F.blk n).phi k).dst=v)=>show Yi F v=((n:Int),-1) by
  obtain⟨r,hr⟩:=Yl7 hn hk
  exact YhA hr h1 h2)
 have HI:=Lh (fun n k (hn:n<F.blocks.length) (hk:k<(F.blk n).insts.length) (h1:mkOf (evs F n++(evPhi F n (F.blk n).phis.length++evIns F n k)) v=[]) (h2:((F.blk n).inst k).dst=v)=>show Yi F v=((n:Int),(k:Int)) by
  obtain⟨r,hr⟩:=Yl8 hn hk
  exact YhA hr h1 h2)
 have HZ:=Lh (fun(h:mkOf (evs F F.blocks.length) v=[])=>show Yi F v=(-1,0) by rw[Yi,evF,h];rfl);go_enter Tryz.func89,Tryz.ntmps89;go_wp2
 go_loopw[15] (fun i wr=>∃n:Nat,i=.int .i64 n∧n≤F.blocks.length∧Hid (mkOf (evs F n) v=[])∧Below (w.heap.size+1) (w.alloc (.cells #[.slice A0 F.vars.length c0,.slice A1 F.params.length c1,.slice A2 F.blocks.length c2] 26)) wr) (fun i _=>F.blocks.length-(intOf i).toNat)
 case atStart=>exact⟨0,rfl,Nz _,rfl,BL⟩
 case round=>as_aux_lemma=>
  obtain⟨n,rfl,hn,HA,hb⟩:=hrel;have hB:=hb0.trans (hb.mono (Nat.le_succ _));have hWr:Below W.heap.size W wr:=hW.trans (hB.mono hWs)
  by_cases hlt:n<F.blocks.length
  · obtain⟨bb,off,A3,c3,A4,c4,rfl,hbb,hnz,hy0,hy1,hy2,hy3,hy4,hy5,hy6,l3,l4,k3,k4,r3,r4⟩:=r2.blk hWr hlt
    have hpt:=HTP.out n hlt;unfold Len at l3 l4;obtain⟨wq,rfl⟩:∃wq:World,wq=wr:=⟨_,rfl⟩;have hws:w.heap.size+1≤wq.heap.size:=by have:=hb.size;simpa using this
    go_wp2
    go_loopw[23] (fun i wr=>∃k:Nat,i=.int .i64 k∧k≤(F.blk n).phis.length∧Hid (mkOf (evs F n++evPhi F n k) v=[])∧Below (wq.heap.size+1) (wq.alloc (.cells #[.string (F.blk n).name,.slice A3 (F.blk n).phis.length c3,.slice A4 (F.blk n).insts.length c4,.int .i64 (F.blk n).term.kind,.int .i64 (F.blk n).term.var,.int .i64 (F.blk n).term.t0,.int .i64 (F.blk n).term.t1] 41)) wr) (fun i _=>(F.blk n).phis.length-(intOf i).toNat)
    case atStart=>exact⟨0,rfl,Nz _,by unfold Hid;rw[YfN,List.append_nil];exact HA.out,BL⟩
    case round=>as_aux_lemma=>
     obtain⟨k,rfl,hk,HK,hbi⟩:=hrel;have hbq:Below wq.heap.size wq wr:=((Br _ _).alloc (Nr _) _).trans (hbi.mono (Nat.le_succ _));have hbr:=hb.trans (hbq.mono hws);have hBr:Below w.heap.size w wr:=hB.trans (hbq.mono hB.size);have hWi:Below W.heap.size W wr:=hW.trans (hBr.mono hWs)
     by_cases hkl:k<(F.blk n).phis.length
     · obtain⟨bp,op,A6,c6,A7,c7,rfl,hbp,hp0,hp1,hp2,l6,l7,k6,k7,-,-⟩:=r3.phi hWi hkl
       unfold Len at l6 l7;clear hy0 hy1 hy2 hy3 hy4 hy5 hy6 hnz;have hbn:=hbi.alloc (by have:=hbi.size;simpa using this) (.cells #[.int .i64 ((F.blk n).phi k).dst,.slice A6 ((F.blk n).phi k).args.length c6,.slice A7 ((F.blk n).phi k).froms.length c7] 76)
       by_cases he:((F.blk n).phi k).dst=v
       · have HF:=Lh (HP.out n k hlt hkl HK.out he)
         have he':(((F.blk n).phi k).dst==v)=true:=by simp[he]
         have HBN:=Lh hbn;clear he hbn;go_wp2
         go_ret2
         exact⟨by rw[HF.out];rfl,hBr.trans BL⟩
       · have HS:=Lh (show mkOf (evs F n++evPhi F n (k+1)) v=[] by rw[Yem,← List.append_assoc,YaP,HK.out,YbT,if_neg he];rfl)
         have he':(((F.blk n).phi k).dst==v)=false:=by simp[he]
         have HBN:=Lh hbn;clear he hbn;go_wp2;go_roundw
         case rel=>exact⟨k+1,ZN,ZO,HS,HBN.out⟩
         case measure=>simp[intOf];omega
     · obtain rfl:k=(F.blk n).phis.length:=by omega
       obtain⟨x0,x1⟩:=show wr.cell? ⟨wq.heap.size,2,none⟩=some (.slice A4 (F.blk n).insts.length c4)∧wq.heap.size<wr.heap.size from⟨(hbi.cell (p:=⟨wq.heap.size,2,none⟩) (Nat.lt_succ_self _)).trans ((BoxAt.new wq #[.string (F.blk n).name,.slice A3 (F.blk n).phis.length c3,.slice A4 (F.blk n).insts.length c4,.int .i64 (F.blk n).term.kind,.int .i64 (F.blk n).term.var,.int .i64 (F.blk n).term.t0,.int .i64 (F.blk n).term.t1] 41).cell 2),by have:=hbi.size;simp at this;omega⟩;clear hy0 hy1 hy2 hy3 hy4 hy5 hy6 hnz;obtain⟨wp,rfl⟩:∃wp:World,wp=wr:=⟨_,rfl⟩;go_wp2;clear x0 x1
       go_loopw[36] (fun i wr=>∃k:Nat,i=.int .i64 k∧k≤(F.blk n).insts.length∧Hid (mkOf (evs F n++(evPhi F n (F.blk n).phis.length++evIns F n k)) v=[])∧Below wp.heap.size wp wr) (fun i _=>(F.blk n).insts.length-(intOf i).toNat)
       case atStart=>exact⟨0,rfl,Nz _,by unfold Hid;rw[YfO,List.append_nil];exact HK.out,Br _ _⟩
       case round=>as_aux_lemma=>
        clear HK;obtain⟨k,rfl,hk,HK,hbi2⟩:=hrel;have hBr2:Below w.heap.size w wr:=hBr.trans (hbi2.mono hBr.size);have hWi2:Below W.heap.size W wr:=hW.trans (hBr2.mono hWs)
        by_cases hkl:k<(F.blk n).insts.length
        · obtain⟨bp,op,A6,c6,rfl,hbp,hp0,hp1,hp2,hp3,l6,k6,-⟩:=r4.inst hWi2 hkl
          unfold Len at l6;have hbn:Below wp.heap.size wp (wr.alloc (.cells #[.int .i64 ((F.blk n).inst k).op,.int .i64 ((F.blk n).inst k).dst,.slice A6 ((F.blk n).inst k).args.length c6,.int .i64 ((F.blk n).inst k).num] 44)):=hbi2.alloc hbi2.size _
          by_cases he:((F.blk n).inst k).dst=v
          · have HF:=Lh (HI.out n k hlt hkl HK.out he)
            have he':(((F.blk n).inst k).dst==v)=true:=by simp[he]
            have HBN:=Lh hbn;clear he hbn;go_wp2
            go_ret2
            exact⟨by rw[HF.out];rfl,hBr.trans (HBN.out.mono hBr.size)⟩
          · have HS:=Lh (show mkOf (evs F n++(evPhi F n (F.blk n).phis.length++evIns F n (k+1))) v=[] by rw[YdF,← List.append_assoc,← List.append_assoc,YaP,List.append_assoc,HK.out,YbT,if_neg he];rfl)
            have he':(((F.blk n).inst k).dst==v)=false:=by simp[he]
            have HBN:=Lh hbn;clear he hbn;go_wp2;go_roundw
            case rel=>exact⟨k+1,ZN,ZO,HS,HBN.out⟩
            case measure=>simp[intOf];omega
        · obtain rfl:k=(F.blk n).insts.length:=by omega
          have HS:=Lh (show mkOf (evs F (n+1)) v=[]from HK.out);go_wp2;go_roundw
          case rel=>exact⟨n+1,ZN,ZO,HS,hbr.trans (hbi2.mono (by have:=hbr.size;simpa using this))⟩
          case measure=>simp[intOf];omega
  · obtain rfl:n=F.blocks.length:=by omega
    have HF:=Lh (HZ.out HA.out);go_wp2
    go_ret2
    exact⟨by rw[HF.out];rfl,hB⟩
set_option maxHeartbeats 8000000 in
theorem Yn6{W w:World}{fv:Value}{F:PFunc}(hF:FnV W W.heap.size fv F)(hW:Below W.heap.size W w)(hT:Yd F=true)(v:Int) :
 Calls Tryz.prog 119 #[fv,.int .i64 v] w fun e w'=>e=.returned (.int .i64 ((mkOf (evF F) v).length:Int))∧Below w.heap.size w w':=by
 have hWs:=hW.size;obtain⟨n1,n2⟩:=Y1 (Yx hT);have HTP:=Lh (fun n (hn:n<F.blocks.length)=>Yep hT hn);clear hT;obtain⟨A0,c0,A1,c1,A2,c2,rfl,l0,l1,l2,-,-,-,r0,r1,r2⟩:=id hF.open_;unfold Len at *;have hb0:=(Br w.heap.size w).alloc (Nr _) (.cells #[.slice A0 F.vars.length c0,.slice A1 F.params.length c1,.slice A2 F.blocks.length c2] 26);have HLE:=Lh (fun l=>Yen (l:=l) (v:=v));go_enter Tryz.func119,Tryz.ntmps119;go_wp2
 go_loopw[5,15] (fun m i wr=>∃n:Nat,m=.int .i64 ((mkOf (evs F n) v).length:Int)∧i=.int .i64 n∧n≤F.blocks.length∧Below (w.heap.size+1) (w.alloc (.cells #[.slice A0 F.vars.length c0,.slice A1 F.params.length c1,.slice A2 F.blocks.length c2] 26)) wr) (fun _ i _=>F.blocks.length-(intOf i).toNat)
 case atStart=>exact⟨0,rfl,rfl,Nz _,BL⟩
 case round=>as_aux_lemma=>
  obtain⟨n,rfl,rfl,hn,hb⟩:=hrel;have hB:=hb0.trans (hb.mono (Nat.le_succ _));have hWr:Below W.heap.size W wr:=hW.trans (hB.mono hWs)
  by_cases hlt:n<F.blocks.length
  · obtain⟨bb,off,A3,c3,A4,c4,rfl,hbb,hnz,hy0,hy1,hy2,hy3,hy4,hy5,hy6,l3,l4,k3,k4,r3,r4⟩:=r2.blk hWr hlt
    have hpt:=HTP.out n hlt;unfold Len at l3 l4;obtain⟨wq,rfl⟩:∃wq:World,wq=wr:=⟨_,rfl⟩;have hws:w.heap.size+1≤wq.heap.size:=by have:=hb.size;simpa using this
    go_wp2
    go_loopw[5,22] (fun m i wr=>∃k:Nat,m=.int .i64 ((mkOf (evs F n++evPhi F n k) v).length:Int)∧i=.int .i64 k∧k≤(F.blk n).phis.length∧Below (wq.heap.size+1) (wq.alloc (.cells #[.string (F.blk n).name,.slice A3 (F.blk n).phis.length c3,.slice A4 (F.blk n).insts.length c4,.int .i64 (F.blk n).term.kind,.int .i64 (F.blk n).term.var,.int .i64 (F.blk n).term.t0,.int .i64 (F.blk n).term.t1] 41)) wr) (fun _ i _=>(F.blk n).phis.length-(intOf i).toNat)
    case atStart=>exact⟨0,by rw[YfN,List.append_nil],rfl,Nz _,BL⟩
    case round=>as_aux_lemma=>
     obtain⟨k,rfl,rfl,hk,hbi⟩:=hrel;have hbq:Below wq.heap.size wq wr:=((Br _ _).alloc (Nr _) _).trans (hbi.mono (Nat.le_succ _));have hbr:=hb.trans (hbq.mono hws);have hBr:Below w.heap.size w wr:=hB.trans (hbq.mono hB.size);have hWi:Below W.heap.size W wr:=hW.trans (hBr.mono hWs);have hle:(mkOf (evs F n++evPhi F n k) v).length≤1024:=by
      refine Nat.le_trans (HLE.out _) ?_;rw[List.length_append,Ycl];omega
     by_cases hkl:k<(F.blk n).phis.length
     · obtain⟨bp,op,A6,c6,A7,c7,rfl,hbp,hp0,hp1,hp2,l6,l7,k6,k7,-,-⟩:=r3.phi hWi hkl
       unfold Len at l6 l7;clear hy0 hy1 hy2 hy3 hy4 hy5 hy6 hnz;have hbn:=hbi.alloc (by have:=hbi.size;simpa using this) (.cells #[.int .i64 ((F.blk n).phi k).dst,.slice A6 ((F.blk n).phi k).args.length c6,.slice A7 ((F.blk n).phi k).froms.length c7] 76);have HBN:=Lh hbn;clear hbn
       by_cases he:((F.blk n).phi k).dst=v
       · have HS:=Lh (show(mkOf (evs F n++evPhi F n (k+1)) v).length=(mkOf (evs F n++evPhi F n k) v).length+1 by rw[Yem,← List.append_assoc,YaP,YbT,if_pos he];simp)
         have he':(((F.blk n).phi k).dst==v)=true:=by simp[he]
         clear he;go_wp2;go_roundw
         case rel=>exact⟨k+1,by rw[HS.out];go_num,ZN,ZO,HBN.out⟩
         case measure=>simp[intOf];omega
       · have HS:=Lh (show(mkOf (evs F n++evPhi F n (k+1)) v).length=(mkOf (evs F n++evPhi F n k) v).length by rw[Yem,← List.append_assoc,YaP,YbT,if_neg he,List.append_nil])
         have he':(((F.blk n).phi k).dst==v)=false:=by simp[he]
         clear he;go_wp2;go_roundw
         case rel=>exact⟨k+1,by rw[HS.out],ZN,ZO,HBN.out⟩
         case measure=>simp[intOf];omega
     · obtain rfl:k=(F.blk n).phis.length:=by omega
       obtain⟨x0,x1⟩:=show wr.cell? ⟨wq.heap.size,2,none⟩=some (.slice A4 (F.blk n).insts.length c4)∧wq.heap.size<wr.heap.size from⟨(hbi.cell (p:=⟨wq.heap.size,2,none⟩) (Nat.lt_succ_self _)).trans ((BoxAt.new wq #[.string (F.blk n).name,.slice A3 (F.blk n).phis.length c3,.slice A4 (F.blk n).insts.length c4,.int .i64 (F.blk n).term.kind,.int .i64 (F.blk n).term.var,.int .i64 (F.blk n).term.t0,.int .i64 (F.blk n).term.t1] 41).cell 2),by have:=hbi.size;simp at this;omega⟩;clear hy0 hy1 hy2 hy3 hy4 hy5 hy6 hnz;obtain⟨wp,rfl⟩:∃wp:World,wp=wr:=⟨_,rfl⟩;go_wp2;clear x0 x1
       go_loopw[5,36] (fun m i wr=>∃k:Nat,m=.int .i64 ((mkOf (evs F n++(evPhi F n (F.blk n).phis.length++evIns F n k)) v).length:Int)∧i=.int .i64 k∧k≤(F.blk n).insts.length∧Below wp.heap.size wp wr) (fun _ i _=>(F.blk n).insts.length-(intOf i).toNat)
       case atStart=>exact⟨0,by rw[YfO,List.append_nil],rfl,Nz _,Br _ _⟩
       case round=>as_aux_lemma=>
        clear hle;obtain⟨k,rfl,rfl,hk,hbi2⟩:=hrel;have hBr2:Below w.heap.size w wr:=hBr.trans (hbi2.mono hBr.size);have hWi2:Below W.heap.size W wr:=hW.trans (hBr2.mono hWs);have hle:(mkOf (evs F n++(evPhi F n (F.blk n).phis.length++evIns F n k)) v).length≤1024:=by
         refine Nat.le_trans (HLE.out _) ?_;rw[List.length_append,List.length_append,Ycl,Yc8];omega
        by_cases hkl:k<(F.blk n).insts.length
        · obtain⟨bp,op,A6,c6,rfl,hbp,hp0,hp1,hp2,hp3,l6,k6,-⟩:=r4.inst hWi2 hkl
          unfold Len at l6;have hbn:Below wp.heap.size wp (wr.alloc (.cells #[.int .i64 ((F.blk n).inst k).op,.int .i64 ((F.blk n).inst k).dst,.slice A6 ((F.blk n).inst k).args.length c6,.int .i64 ((F.blk n).inst k).num] 44)):=hbi2.alloc hbi2.size _;have HBN:=Lh hbn;clear hbn
          by_cases he:((F.blk n).inst k).dst=v
          · have HS:=Lh (show(mkOf (evs F n++(evPhi F n (F.blk n).phis.length++evIns F n (k+1))) v).length=(mkOf (evs F n++(evPhi F n (F.blk n).phis.length++evIns F n k)) v).length+1 by rw[YdF,← List.append_assoc,← List.append_assoc,YaP,List.append_assoc,YbT,if_pos he];simp)
            have he':(((F.blk n).inst k).dst==v)=true:=by simp[he]
            clear he;go_wp2;go_roundw
            case rel=>exact⟨k+1,by rw[HS.out];go_num,ZN,ZO,HBN.out⟩
            case measure=>simp[intOf];omega
          · have HS:=Lh (show(mkOf (evs F n++(evPhi F n (F.blk n).phis.length++evIns F n (k+1))) v).length=(mkOf (evs F n++(evPhi F n (F.blk n).phis.length++evIns F n k)) v).length by rw[YdF,← List.append_assoc,← List.append_assoc,YaP,List.append_assoc,YbT,if_neg he,List.append_nil])
            have he':(((F.blk n).inst k).dst==v)=false:=by simp[he]
            clear he;go_wp2;go_roundw
            case rel=>exact⟨k+1,by rw[HS.out],ZN,ZO,HBN.out⟩
            case measure=>simp[intOf];omega
        · obtain rfl:k=(F.blk n).insts.length:=by omega
          have HS:=Lh (show mkOf (evs F (n+1)) v=mkOf (evs F n++(evPhi F n (F.blk n).phis.length++evIns F n (F.blk n).insts.length)) v from rfl);go_wp2;go_roundw
          case rel=>exact⟨n+1,by rw[HS.out],ZN,ZO,hbr.trans (hbi2.mono (by have:=hbr.size;simpa using this))⟩
          case measure=>simp[intOf];omega
  · obtain rfl:n=F.blocks.length:=by omega
    go_wp2;go_ret;exact⟨rfl,hB⟩
set_option maxHeartbeats 2000000 in
theorem Yn7{W w:World}{fv:Value}{F:PFunc}(hF:FnV W W.heap.size fv F)(hW:Below W.heap.size W w)(hT:Yd F=true)(v:Int)(b:Nat)(hb:b<F.blocks.length)(at_:Int) :
 Calls Tryz.prog 120 #[fv,.int .i64 v,.int .i64 (b:Int),.int .i64 at_] w fun e w'=>e=.returned (.bool (YC F (Ys F) v b at_))∧Below w.heap.size w w':=by
 have hmk:=fun(w':World) (h:Below W.heap.size W w')=>YiM hF h hT v
 obtain⟨n1,n2⟩:=Y1 (Yx hT);have hre:=fun(w':World) (h:Below W.heap.size W w') (r:Int)=>YfY hF h n1 n2 r
 have hmb:=YhB (F:=F) (v:=v);have HT:=Lh hT;have HD:=Lh (show YC F (Ys F) v b at_=if(Yi F v).1<0 then true else if(Yi F v).1=(b:Int) then decide ((Yi F v).2<at_) else Ys F (Yi F v).1.toNat b from rfl);obtain⟨A0,c0,A1,c1,A2,c2,rfl,l0,l1,l2,-⟩:=id hF.open_;unfold Len at *;have hWs:=hW.size;have hb0:=(Br w.heap.size w).alloc (Nr _) (.cells #[.slice A0 F.vars.length c0,.slice A1 F.params.length c1,.slice A2 F.blocks.length c2] 26);generalize (Yi F v).1=x at *;generalize (Yi F v).2=y at *;clear hT hF
 by_cases h0:x<0
 · have HF:=Lh (show YC F (Ys F) v b at_=true by rw[HD.out,if_pos h0])
   clear hmb;go_enter Tryz.func120,Tryz.ntmps120;go_wp2_with fail;refine(hmk _ BL).mono ?_;(rintro e w1 ⟨rfl,hb1⟩;obtain⟨hc1,hf1⟩:=Ya hb1;have hz1:=hb1.size;try simp at hz1;try have hy1:=Nl hz1;try have hx1:=Ns hy1;try have hw1:=Ns hx1);go_wp2;go_ret;exact⟨Yb HF.out.symm,BL⟩
 by_cases h1:x=(b:Int)
 · have HF:=Lh (show YC F (Ys F) v b at_=decide (y<at_) by rw[HD.out,if_neg h0,if_pos h1])
   clear hmb;subst h1;go_enter Tryz.func120,Tryz.ntmps120;go_wp2_with fail;refine(hmk _ BL).mono ?_;(rintro e w1 ⟨rfl,hb1⟩;obtain⟨hc1,hf1⟩:=Ya hb1;have hz1:=hb1.size;try simp at hz1;try have hy1:=Nl hz1;try have hx1:=Ns hy1;try have hw1:=Ns hx1);go_wp2;go_ret;exact⟨Yb HF.out.symm,BL⟩
 · obtain⟨a,rfl⟩:∃a:Nat,x=(a:Int):=⟨x.toNat,ZO⟩
   have HF:=Lh (show YC F (Ys F) v b at_=Ys F a b by rw[HD.out,if_neg h0,if_neg h1,Int.toNat_natCast]);have h1':((a:Int)==(b:Int))=false:=by rw[beq_eq_false_iff_ne];exact h1
   have hbn:(b:Int)<(F.blocks.length:Int):=by omega
   have HAT:=Lh (show((YaQ (RF F (a:Int)) F.blocks.length 0).set 0 (decide ((a:Int)≠0))).getD b false=!Ys F a b by
    rw[Bool.eq_iff_iff,YiB HT.out hb];unfold Ys
    simp)
   clear hmb;go_enter Tryz.func120,Tryz.ntmps120;go_wp2_with fail;refine(hmk _ BL).mono ?_;rintro e w1 ⟨rfl,hb1⟩;have hX1:Below (w.heap.size+1) (w.alloc (.cells #[.slice A0 F.vars.length c0,.slice A1 F.params.length c1,.slice A2 F.blocks.length c2] 26)) w1:=by simpa using hb1
   obtain⟨q,q0,q1,q2⟩:=Yn hX1;have hB1:=hb0.trans (hX1.mono (Nat.le_succ _));go_wp2_with fail;refine(hre _ (hW.trans (hB1.mono hWs)) _).mono ?_;rintro e w2 ⟨g,rfl,ho,hb2⟩;have hc:=YaR ho (i:=b) hb;rw[HAT.out]at hc;have hgl:=(ho.lt g rfl).2;generalize Ys F a b=X at *;clear ho;go_wp2;go_ret;exact⟨by rw[HF.out];simp,hB1.trans (hb2.mono hB1.size)⟩
section
variable {F:PFunc} {i:Nat}
theorem Yn8(h:Ybw F=false):Ybi F=false:=by
 unfold Ybi;rw[h];rfl
theorem Yn9(hi:i<F.vars.length)(h:onceAt F i=false):Ybi F=false:=by
 unfold Ybi Yr;rw[YcB hi h];simp
theorem Yoa(hi:i<F.blocks.length)(h:i∉OR F∨YH F (Ys F) i=false):Ybi F=false:=by
 unfold Ybi;rw[YcB hi (by rcases h with h|h<;>simp[h])];simp
theorem Yob(hj:Ybw F=true)(ho:∀v,v<F.vars.length→onceAt F v=true)(hb:∀i,i<F.blocks.length→i∈OR F∧YH F (Ys F) i=true):Ybi F=true:=by
 unfold Ybi Yr;rw[hj,YcC ho,YcC fun i hi=>by rw[decide_eq_true (hb i hi).1,(hb i hi).2];rfl];rfl
end
theorem Yoc{F:PFunc}{T:Nat→Nat→Bool}{i k j:Nat}(hj:j<((F.blk i).inst k).args.length)(h:YC F T (ith ((F.blk i).inst k).args j) i (k:Int)=false):instBe F T i k=false:=by
 unfold instBe;rw[← Bool.not_eq_true,List.all_eq_true];intro hh;have:=hh _ (Ycf hj);rw[h]at this;cases this
theorem Yod{F:PFunc}{T:Nat→Nat→Bool}{i k:Nat}(h:∀j,j<((F.blk i).inst k).args.length→YC F T (ith ((F.blk i).inst k).args j) i (k:Int)=true):instBe F T i k=true:=by
 unfold instBe;rw[List.all_eq_true];intro v hv;obtain⟨j,hj,rfl⟩:=List.getElem_of_mem hv;have:=h j hj;simpa[ith,List.getD,hj]using this
set_option maxHeartbeats 32000000 in
theorem Yoe{W w:World}{fv:Value}{F:PFunc}(hF:FnV W W.heap.size fv F)(hW:Below W.heap.size W w)(hT:Yd F=true) :
 Calls Tryz.prog 84 #[fv] w fun e w'=>e=.returned (.bool (Ybi F))∧Below w.heap.size w w':=by
 have hjo:=fun(w':World) (h:Below W.heap.size W w')=>Yn5 hF h hT
 have HMK:=Lh (fun(w':World) (h:Below W.heap.size W w') (v:Int)=>Yn6 hF h hT v);have HAH:=Lh (fun(w':World) (h:Below W.heap.size W w') (v:Int) (b:Nat) (hb:b<F.blocks.length) (at_:Int)=>Yn7 hF h hT v b hb at_);obtain⟨n1,n2⟩:=Y1 (Yx hT);have nv:=Yb5 hT;have hre:=fun(w':World) (h:Below W.heap.size W w')=>YfY hF h n1 n2 (-1)
 rw[← YhQ hT]at hre;have HTY:=Lh hT;obtain⟨A0,c0,A1,c1,A2,c2,rfl,l0,l1,l2,-,-,-,r0,r1,r2⟩:=id hF.open_;unfold Len at *;have hWs:=hW.size;have hb0:=(Br w.heap.size w).alloc (Nr _) (.cells #[.slice A0 F.vars.length c0,.slice A1 F.params.length c1,.slice A2 F.blocks.length c2] 26);obtain⟨J,hJ⟩:∃J,Ybw F=J:=⟨_,rfl⟩;rw[hJ]at hjo;have HJ:=Lh hJ;clear hJ hT hF;cases J
 · have HF:=Lh (Yn8 HJ.out)
   go_enter Tryz.func84,Tryz.ntmps84;go_wp2_with fail;refine(hjo _ BL).mono ?_;(rintro e w1 ⟨rfl,hb1⟩;obtain⟨hc1,hf1⟩:=Ya hb1;have hz1:=hb1.size;try simp at hz1;try have hy1:=Nl hz1;try have hx1:=Ns hy1;try have hw1:=Ns hx1);go_wp2;go_ret;exact⟨Yb HF.out.symm,BL⟩
 go_enter Tryz.func84,Tryz.ntmps84;go_wp2_with fail;refine(hjo _ BL).mono ?_;rintro e w4 ⟨rfl,hb4⟩;have hX4:Below (w.heap.size+1) (w.alloc (.cells #[.slice A0 F.vars.length c0,.slice A1 F.params.length c1,.slice A2 F.blocks.length c2] 26)) w4:=by simpa using hb4
 have hB4:=hb0.trans (hX4.mono (Nat.le_succ _));obtain⟨q,q0,q1,q2⟩:=Yn hX4;go_wp2_with fail;refine(hre _ (hW.trans (hB4.mono hWs))).mono ?_;rintro e w5 ⟨g,rfl,ho,hb5⟩;have hX5:Below (w.heap.size+1) (w.alloc (.cells #[.slice A0 F.vars.length c0,.slice A1 F.params.length c1,.slice A2 F.blocks.length c2] 26)) w5:=hX4.trans (hb5.mono (by have:=hX4.size;simpa using this));have HTH:=Lh (fun i (hi:i<F.blocks.length)=>YaR ho hi);have hgl:=(ho.lt g rfl).2;clear q q0 q1 q2 ho hjo hre hb4 hb5 hX4 hB4;obtain⟨q,q0,q1,q2⟩:=Yn hX5;go_wp2;clear q q0 q1 q2
 go_loopw[24] (fun x wr=>∃n:Nat,x=.int .i64 n∧n≤F.vars.length∧Hid (∀m,m<n→onceAt F m=true)∧Below w5.heap.size w5 wr) (fun x _=>F.vars.length-(intOf x).toNat)
 case atStart=>exact⟨0,rfl,Nz _,fun m hm=>absurd hm (Nat.not_lt_zero _),Br _ _⟩
 case round=>as_aux_lemma=>
  obtain⟨n,rfl,hn,HO,hb⟩:=hrel;have hXr:=hX5.trans (hb.mono (by have:=hX5.size;simpa using this));have hBr:=hb0.trans (hXr.mono (Nat.le_succ _));have hWr:Below W.heap.size W wr:=hW.trans (hBr.mono hWs);obtain⟨q,q0,q1,q2⟩:=Yn hXr
  by_cases hlt:n<F.vars.length
  · have hmk:=HMK.out wr hWr (n:Int)
    have HD:=Lh (show onceAt F n=!(decide (1<(mkOf (evF F) (n:Int)).length)||decide (0<(mkOf (evF F) (n:Int)).length)&&decide (n<F.params.length))from rfl);have HNn:=Lh (fun h=>Yn9 hlt h);generalize (mkOf (evF F) (n:Int)).length=m at *;have fn:(n:Int)<(F.vars.length:Int):=by omega
    clear hn HTH HAH HMK
    by_cases h1:1<m
    · have h1':1<(m:Int):=by omega
      have HZ:=Lh (HNn.out (by rw[HD.out];simp[h1]));clear h1;go_wp2_with fail;refine hmk.mono ?_;rintro e w6 ⟨rfl,hb6⟩;go_wp2;go_ret;exact⟨Yb HZ.out.symm,hBr.trans (hb6.mono hBr.size)⟩
    · have h1':¬1<(m:Int):=by omega
      by_cases h2:0<m
      · have h2':0<(m:Int):=by omega
        by_cases h3:n<F.params.length
        · have h3':(n:Int)<(F.params.length:Int):=by omega
          have HZ:=Lh (HNn.out (by rw[HD.out];simp[h2,h3]));clear h1 h2 h3;go_wp2_with fail;refine hmk.mono ?_;rintro e w6 ⟨rfl,hb6⟩;have q6:=Nt q hb6.size;have q61:=(hb6.cell (p:=⟨w.heap.size,1,none⟩) q).trans q1;go_wp2;go_ret;exact⟨Yb HZ.out.symm,hBr.trans (hb6.mono hBr.size)⟩
        · have h3':¬(n:Int)<(F.params.length:Int):=by omega
          have HZ:=Lh (show onceAt F n=true by rw[HD.out];simp[h1,h3]);clear h1 h2 h3;go_wp2_with fail;refine hmk.mono ?_;rintro e w6 ⟨rfl,hb6⟩;have q6:=Nt q hb6.size;have q61:=(hb6.cell (p:=⟨w.heap.size,1,none⟩) q).trans q1;go_wp2;go_roundw
          case rel=>exact⟨n+1,ZN,ZO,fun m hm=>if h:m<n then HO.out m h else by
           obtain rfl:m=n:=by omega
           exact HZ.out,hb.trans (hb6.mono hb.size)⟩
          case measure=>simp[intOf];omega
      · have h2':¬0<(m:Int):=by omega
        have HZ:=Lh (show onceAt F n=true by rw[HD.out];simp[h1,h2]);clear h1 h2;go_wp2_with fail;refine hmk.mono ?_;rintro e w6 ⟨rfl,hb6⟩;go_wp2;go_roundw
        case rel=>exact⟨n+1,ZN,ZO,fun m hm=>if h:m<n then HO.out m h else by
         obtain rfl:m=n:=by omega
         exact HZ.out,hb.trans (hb6.mono hb.size)⟩
        case measure=>simp[intOf];omega
  · obtain rfl:n=F.vars.length:=by omega
    clear HMK;obtain⟨w6,rfl⟩:∃w6:World,w6=wr:=⟨_,rfl⟩;go_wp2;clear q q0 q1 q2
    go_loopw[47] (fun x wr=>∃n:Nat,x=.int .i64 n∧n≤F.blocks.length∧Hid (∀m,m<n→m∈OR F∧YH F (Ys F) m=true)∧Below w5.heap.size w5 wr) (fun x _=>F.blocks.length-(intOf x).toNat)
    case atStart=>exact⟨0,rfl,Nz _,fun m hm=>absurd hm (Nat.not_lt_zero _),hb⟩
    case round=>as_aux_lemma=>
     clear hb hXr hBr hWr;obtain⟨i,rfl,hi',HB,hb⟩:=hrel;have hXr:=hX5.trans (hb.mono (by have:=hX5.size;simpa using this));have hBr:=hb0.trans (hXr.mono (Nat.le_succ _));have hWr:Below W.heap.size W wr:=hW.trans (hBr.mono hWs)
     by_cases hi:i<F.blocks.length
     · have hth:=HTH.out i hi
       replace hth:=(hb.cell (p:=⟨g,i,none⟩) hgl).trans hth;have hgr:=Nt hgl hb.size;have hin:(i:Int)<(F.blocks.length:Int):=by omega
       have HNB:=Lh (fun h=>Yoa hi h);have HAT:=Lh (YeG (F:=F) hi);obtain⟨th,hth0⟩:∃th,(YW F.blocks.length (postO F).reverse).getD i false=th:=⟨_,rfl⟩;rw[hth0]at hth;have HTHI:=Lh (show(th=true↔i∈OR F) by rw[← hth0];exact HAT.out);clear hth0 HAT HTH;have HBL:=Lh (fun(w':World) (h:Below W.heap.size W w') (j:Nat) (hj:j<F.blocks.length)=>r2.blk h hj);obtain⟨bb,off,A3,c3,A4,c4,rfl,hbb,hnz,hy0,hy1,hy2,hy3,hy4,hy5,hy6,l3,l4,k3,k4,r3,r4⟩:=r2.blk hWr hi;unfold Len at l3 l4;cases th
       · as_aux_lemma=>
         have HF:=Lh (HNB.out (.inl fun h=>by have:=HTHI.out.2 h;cases this));go_wp2;go_ret;exact⟨Yb HF.out.symm,BL⟩
       have HPH:=Lh (fun k (hk:k<(F.blk i).phis.length)=>YdI HTY.out hi hk);have HFR:=Lh (fun k (hk:k<(F.blk i).phis.length) j (hj:j<((F.blk i).phi k).froms.length)=>YdQ HTY.out hi hk hj);have HNP:=Lh (fun k j (hk:k<(F.blk i).phis.length) (hj:j<((F.blk i).phi k).args.length) (h:pairOk F (Ys F) ((F.blk i).phi k) j=false)=>HNB.out (.inr (YiG hk hj h)));have HNI:=Lh (fun k (hk:k<(F.blk i).insts.length) (h:instBe F (Ys F) i k=false)=>HNB.out (.inr (YiH hk h)));have HEN:=Lh (fun hp hq=>YiI (F:=F) (T:=Ys F) (i:=i) hp hq);have HOR:=Lh (HTHI.out.1 rfl);obtain⟨wq,rfl⟩:∃wq:World,wq=wr:=⟨_,rfl⟩;have hws:w.heap.size+1≤wq.heap.size:=by have:=hXr.size;simpa using this
       go_wp2;clear hth hgr
       go_loopw[60] (fun x wr=>∃k:Nat,x=.int .i64 k∧k≤(F.blk i).phis.length∧Hid (∀j,j<k→Ybt F (Ys F) ((F.blk i).phi j)=true)∧Below (wq.heap.size+1) (wq.alloc (.cells #[.string (F.blk i).name,.slice A3 (F.blk i).phis.length c3,.slice A4 (F.blk i).insts.length c4,.int .i64 (F.blk i).term.kind,.int .i64 (F.blk i).term.var,.int .i64 (F.blk i).term.t0,.int .i64 (F.blk i).term.t1] 41)) wr) (fun x _=>(F.blk i).phis.length-(intOf x).toNat)
       case atStart=>exact⟨0,rfl,Nz _,fun m hm=>absurd hm (Nat.not_lt_zero _),Br _ _⟩
       case round=>as_aux_lemma=>
        clear hy0 hy1 hy2 hy3 hy4 hy5 hy6 hnz hbb;obtain⟨k,rfl,hk,HK,hbk⟩:=hrel;have hbq:Below wq.heap.size wq wr:=((Br _ _).alloc (Nr _) _).trans (hbk.mono (Nat.le_succ _));have hX6:=hXr.trans (hbq.mono hws);have hB6:Below w.heap.size w wr:=hBr.trans (hbq.mono hBr.size);have hW6:Below W.heap.size W wr:=hW.trans (hB6.mono hWs)
        by_cases hkl:k<(F.blk i).phis.length
        · obtain⟨bp,op,A6,c6,A7,c7,rfl,hbp,hp0,hp1,hp2,l6,l7,k6,k7,r6,r7⟩:=r3.phi hW6 hkl
          unfold Len at l6 l7;obtain⟨hll,-,-⟩:=HPH.out k hkl;have hfa:=Lh (HFR.out k hkl);have hnp:=Lh (fun j hj h=>HNP.out k j hkl hj h);have hpe:=Lh (fun(h:∀j,j<((F.blk i).phi k).args.length→pairOk F (Ys F) ((F.blk i).phi k) j=true)=>show Ybt F (Ys F) ((F.blk i).phi k)=true from YcC h);have hpk:=Lh (fun j=>show pairOk F (Ys F) ((F.blk i).phi k) j=YC F (Ys F) (ith ((F.blk i).phi k).args j) (ith ((F.blk i).phi k).froms j).toNat ((F.blk (ith ((F.blk i).phi k).froms j).toNat).insts.length:Int)from rfl);clear HPH HFR HNP;obtain⟨ph,hph⟩:∃ph,ph=(F.blk i).phi k:=⟨_,rfl⟩;rw[← hph]at hp0 hp1 hp2 l6 l7 k6 k7 r6 r7 hll hfa hnp hpe hpk;have HP:=Lh hph;clear hph;have hlle:ph.args.length≤ph.froms.length:=by omega
          clear hll;obtain⟨ws,rfl⟩:∃ws:World,ws=wr:=⟨_,rfl⟩;go_wp2
          go_loopw[67] (fun x wr=>∃j:Nat,x=.int .i64 j∧j≤ph.args.length∧Hid (∀t,t<j→pairOk F (Ys F) ph t=true)∧Below (ws.heap.size+1) (ws.alloc (.cells #[.int .i64 ph.dst,.slice A6 ph.args.length c6,.slice A7 ph.froms.length c7] 76)) wr) (fun x _=>ph.args.length-(intOf x).toNat)
          case atStart=>exact⟨0,rfl,Nz _,fun m hm=>absurd hm (Nat.not_lt_zero _),Br _ _⟩
          case round=>as_aux_lemma=>
           obtain⟨j,rfl,hj,HJ',hbj⟩:=hrel;have hbs:Below ws.heap.size ws wr:=((Br _ _).alloc (Nr _) _).trans (hbj.mono (Nat.le_succ _));have hB7:Below w.heap.size w wr:=hB6.trans (hbs.mono hB6.size);have hW7:Below W.heap.size W wr:=hW.trans (hB7.mono hWs);have hX7:=hX6.trans (hbs.mono (by have:=hX6.size;simpa using this));obtain⟨y,y0,y1,y2⟩:=Yn hX7
           by_cases hjl:j<ph.args.length
           · obtain⟨b8,o8,rfl,hb8,hc8⟩:=r6.int hW7 hjl
             have hjf:j<ph.froms.length:=by omega
             obtain⟨b9,o9,rfl,hb9,hc9⟩:=r7.int hW7 hjf;obtain⟨z,z0,z1,z2⟩:=Yn hbj;obtain⟨hf0,hf1⟩:=hfa.out j hjf;have hpj:=hpk.out j;have hnj:=Lh (fun h=>hnp.out j hjl h);obtain⟨f,hf⟩:∃f:Nat,ith ph.froms j=(f:Int):=⟨(ith ph.froms j).toNat,ZO⟩;rw[hf]at hc9 hf1 hpj;rw[Int.toNat_natCast]at hpj;obtain⟨bb1,off1,A1f,c1f,Af,cf,he,hbf,-,-,-,hz2,-,-,-,-,-,lf2,-,-,-,-⟩:=HBL.out wr hW7 f ZO;cases he;unfold Len at lf2;have ha:=fun(w':World) (h:Below W.heap.size W w')=>HAH.out w' h (ith ph.args j) f ZO ((F.blk f).insts.length:Int)
             rw[← hpj]at ha;clear hpj hf;generalize (F.blk f).insts.length=lf at *;generalize ith ph.args j=v at *;have hfn:(f:Int)<(F.blocks.length:Int):=by omega
             obtain⟨X,hX⟩:∃X,pairOk F (Ys F) ph j=X:=⟨_,rfl⟩;rw[hX]at ha;have HX:=Lh hX;clear hX hX7 hbs hp0 hp1 hp2;go_wp2_with fail;obtain⟨S0,hS0⟩:∃S0:World→Prop,S0=fun w'=>w'.cell? ⟨w.heap.size,0,none⟩=some (.slice A0 F.vars.length c0)∧w'.cell? ⟨w.heap.size,1,none⟩=some (.slice A1 F.params.length c1)∧w'.cell? ⟨w.heap.size,2,none⟩=some (.slice (some ⟨bb,off,none⟩) F.blocks.length c2)∧w'.cell? ⟨ws.heap.size,2,none⟩=some (.slice (some ⟨b9,o9,none⟩) ph.froms.length c7)∧w'.cell? ⟨b9,o9+j,none⟩=some (.int .i64 (f:Int))∧w'.cell? ⟨bb,off+f*7+2,none⟩=some (.slice Af lf cf)∧Below (ws.heap.size+1) (ws.alloc (.cells #[.int .i64 ph.dst,.slice (some ⟨b8,o8,none⟩) ph.args.length c6,.slice (some ⟨b9,o9,none⟩) ph.froms.length c7] 76)) w'∧Below W.heap.size W w'∧w.heap.size<w'.heap.size∧ws.heap.size<w'.heap.size∧b9<w'.heap.size∧bb<w'.heap.size:=⟨_,rfl⟩
             have HS0:=Lh hS0;clear hS0;have k0:=fun xw=>(WS.at HS0 xw).1
             have k1:=fun xw=>(WS.at HS0 xw).2.1
             have k2:=fun xw=>(WS.at HS0 xw).2.2.1
             have k3:=fun xw=>(WS.at HS0 xw).2.2.2.1
             have k4:=fun xw=>(WS.at HS0 xw).2.2.2.2.1
             have k5:=fun xw=>(WS.at HS0 xw).2.2.2.2.2.1
             have k6:=fun xw=>(WS.at HS0 xw).2.2.2.2.2.2.1
             have k7:=fun xw=>(WS.at HS0 xw).2.2.2.2.2.2.2.1
             have k8:=fun xw=>(WS.at HS0 xw).2.2.2.2.2.2.2.2.1
             have k9:=fun xw=>(WS.at HS0 xw).2.2.2.2.2.2.2.2.2.1
             have k10:=fun xw=>(WS.at HS0 xw).2.2.2.2.2.2.2.2.2.2.1
             have k11:=fun xw=>(WS.at HS0 xw).2.2.2.2.2.2.2.2.2.2.2
             refine Yz (S:=S0) [0,1,2,3,4,5,6,7,8,9,10,11,12,13,14,15,16,17,18,19] ZK ZK (fun _ _ _ _ _ h=>h) ?hS (fun hSc=>?_)
             case hS=>
              rw[HS0.out];exact⟨ZI,ZI,ZI,ZI,ZI,ZI,BL,BL,ZJ,ZJ,ZJ,ZJ⟩
             have hne0:Nonempty (WS S0):=⟨⟨_,hSc⟩⟩;simp only[List.map_cons,List.map_nil,Ld,Le]
             repeat
              first
              |((with_reducible refine YA ?_ ?_);exact rfl;go_big_quiet_step (fail);(try with_reducible refine wpQuiet_nil ?_);(try dsimp only))
              |((with_reducible refine YF ?_ ?_ (fun K hK=>?_))
                exact rfl;exact rfl;go_simp;(try go_wp2_with(go_at_call 120;refine(ha _ BL).mono ?_;rintro e w9 ⟨rfl,hb9⟩;obtain⟨hc9,hf9⟩:=Ya hb9;have hz9:=hb9.size;(try simp at hz9)));refine hK.out _ _ ?hS (fun hSc=>?_)
                case hS=>
                 first
                 |exact hSc
                 |(rw[HS0.out]at hSc ⊢;obtain⟨p0,p1,p2,p3,p4,p5,p6,p7,p8,p9,p10,p11⟩:=hSc;exact⟨ZC0,ZC1,ZC2,ZC3,ZC4,ZC5,ZL6,ZL7,ZT8,ZT9,(by first|exact Nt p10 hb9.size|exact ZT),(by first|exact Nt p11 hb9.size|exact ZT)⟩)
                clear hK K)
             refine YB ?_;rw[HS0.out]at hSc;obtain⟨p0,p1,p2,p3,p4,p5,p6,p7,p8,p9,p10,p11⟩:=hSc;clear hne0 HS0 k0 k1 k2 k3 k4 k5 k6 k7 k8 k9 k10 k11;cases X
             · as_aux_lemma=>
               have HF:=Lh (hnj.out HX.out);go_wp2;go_ret;exact⟨Yb HF.out.symm,hB6.trans ((((Br _ _).alloc (Nr _) _).trans (p6.mono (Nat.le_succ _))).mono hB6.size)⟩
             · as_aux_lemma=>
               go_wp2;go_roundw
               case rel=>exact⟨j+1,ZN,ZO,fun t ht=>if h:t<j then HJ'.out t h else by
                obtain rfl:t=j:=by omega
                exact HX.out,p6⟩
               case measure=>simp[intOf];omega
           · obtain rfl:j=ph.args.length:=by omega
             have HOK:=Lh (hpe.out HJ'.out);go_wp2;go_roundw
             case rel=>exact⟨k+1,ZN,ZO,fun t ht=>if h:t<k then HK.out t h else by
              obtain rfl:t=k:=by omega
              rw[← HP.out];exact HOK.out,hbk.trans (hbs.mono (by have:=hbk.size;simpa using this))⟩
             case measure=>simp[intOf];omega
        · obtain rfl:k=(F.blk i).phis.length:=by omega
          have hX:=(BoxAt.new wq _ _).below hbk (Nat.lt_succ_self _);have x42:=hX.cell 2;have x4l:=hX.lt;replace x42:wr.cell? ⟨wq.heap.size,2,none⟩=some (.slice A4 (F.blk i).insts.length c4):=x42;clear hX HPH HFR HNP HBL;obtain⟨ws,rfl⟩:∃ws:World,ws=wr:=⟨_,rfl⟩;go_wp2;clear x42 x4l
          go_loopw[97] (fun x wr=>∃m:Nat,x=.int .i64 m∧m≤(F.blk i).insts.length∧Hid (∀j,j<m→instBe F (Ys F) i j=true)∧Below (wq.heap.size+1) (wq.alloc (.cells #[.string (F.blk i).name,.slice A3 (F.blk i).phis.length c3,.slice A4 (F.blk i).insts.length c4,.int .i64 (F.blk i).term.kind,.int .i64 (F.blk i).term.var,.int .i64 (F.blk i).term.t0,.int .i64 (F.blk i).term.t1] 41)) wr) (fun x _=>(F.blk i).insts.length-(intOf x).toNat)
          case atStart=>exact⟨0,rfl,Nz _,fun m hm=>absurd hm (Nat.not_lt_zero _),hbk⟩
          case round=>as_aux_lemma=>
           clear hbk hbq hX6 hB6 hW6;obtain⟨m,rfl,hm,HM,hbk⟩:=hrel;have hbq:Below wq.heap.size wq wr:=((Br _ _).alloc (Nr _) _).trans (hbk.mono (Nat.le_succ _));have hX6:=hXr.trans (hbq.mono hws);have hB6:Below w.heap.size w wr:=hBr.trans (hbq.mono hBr.size);have hW6:Below W.heap.size W wr:=hW.trans (hB6.mono hWs);have hX:=(BoxAt.new wq _ _).below hbk (Nat.lt_succ_self _)
           by_cases hml:m<(F.blk i).insts.length
           · obtain⟨bp,op,A6,c6,rfl,hbp,hp0,hp1,hp2,hp3,l6,k6,r6⟩:=r4.inst hW6 hml
             unfold Len at l6;have HNM:=Lh (fun j hj h=>HNI.out m hml (Yoc (j:=j) hj h));have HYM:=Lh (fun h=>Yod (F:=F) (T:=Ys F) (i:=i) (k:=m) h);obtain⟨xi,hxi⟩:∃xi,xi=(F.blk i).inst m:=⟨_,rfl⟩;rw[← hxi]at hp0 hp1 hp2 hp3 l6 k6 r6 HNM HYM;clear hxi hX HNI HEN;obtain⟨wv,rfl⟩:∃wv:World,wv=wr:=⟨_,rfl⟩;go_wp2
             go_loopw[105] (fun x wr=>∃j:Nat,x=.int .i64 j∧j≤xi.args.length∧Hid (∀t,t<j→YC F (Ys F) (ith xi.args t) i (m:Int)=true)∧Below (wv.heap.size+1) (wv.alloc (.cells #[.int .i64 xi.op,.int .i64 xi.dst,.slice A6 xi.args.length c6,.int .i64 xi.num] 44)) wr) (fun x _=>xi.args.length-(intOf x).toNat)
             case atStart=>exact⟨0,rfl,Nz _,fun m hm=>absurd hm (Nat.not_lt_zero _),Br _ _⟩
             case round=>as_aux_lemma=>
              obtain⟨j,rfl,hj,HJ',hbj⟩:=hrel;have hbs:Below wv.heap.size wv wr:=((Br _ _).alloc (Nr _) _).trans (hbj.mono (Nat.le_succ _));have hB7:Below w.heap.size w wr:=hB6.trans (hbs.mono hB6.size);have hW7:Below W.heap.size W wr:=hW.trans (hB7.mono hWs);have hX7:=hX6.trans (hbs.mono (by have:=hX6.size;simpa using this));obtain⟨y,y0,y1,y2⟩:=Yn hX7
              by_cases hjl:j<xi.args.length
              · obtain⟨b8,o8,rfl,hb8,hc8⟩:=r6.int hW7 hjl
                have ha:=HAH.out wr hW7 (ith xi.args j) i hi (m:Int);have hnj:=Lh (fun h=>HNM.out j hjl h);obtain⟨X,hX⟩:∃X,YC F (Ys F) (ith xi.args j) i (m:Int)=X:=⟨_,rfl⟩;rw[hX]at ha;have HX:=Lh hX;clear hX hX7 hp0 hp1 hp2 hp3;generalize hv:ith xi.args j=v at *;have HV:=Lh hv;clear hv;cases X
                · as_aux_lemma=>
                  have HF:=Lh (hnj.out HX.out);go_wp2_with fail;refine ha.mono ?_;rintro e w9 ⟨rfl,hb9⟩;go_wp2;go_ret;exact⟨Yb HF.out.symm,hB7.trans (hb9.mono hB7.size)⟩
                · as_aux_lemma=>
                  go_wp2_with fail;refine ha.mono ?_;rintro e w9 ⟨rfl,hb9⟩;go_wp2;go_roundw
                  case rel=>exact⟨j+1,ZN,ZO,fun t ht=>if h:t<j then HJ'.out t h else by
                   obtain rfl:t=j:=by omega
                   rw[HV.out];exact HX.out,hbj.trans (hb9.mono (by have:=hbj.size;simpa using this))⟩
                  case measure=>simp[intOf];omega
              · obtain rfl:j=xi.args.length:=by omega
                have HOK:=Lh (HYM.out HJ'.out);go_wp2;go_roundw
                case rel=>exact⟨m+1,ZN,ZO,fun t ht=>if h:t<m then HM.out t h else by
                 obtain rfl:t=m:=by omega
                 exact HOK.out,hbk.trans (hbs.mono (by have:=hbk.size;simpa using this))⟩
                case measure=>simp[intOf];omega
           · obtain rfl:m=(F.blk i).insts.length:=by omega
             have HE:=Lh (HEN.out HK.out HM.out);have HTD:=Lh (show Yc9 F (Ys F) i=(decide ((F.blk i).term.kind=0)||YC F (Ys F) (F.blk i).term.var i ((F.blk i).insts.length:Int))from rfl);have q42:wr.cell? ⟨wq.heap.size,2,none⟩=some (.slice A4 (F.blk i).insts.length c4):=hX.cell 2;have q43:wr.cell? ⟨wq.heap.size,3,none⟩=some (.int .i64 (F.blk i).term.kind):=hX.cell 3;have q44:wr.cell? ⟨wq.heap.size,4,none⟩=some (.int .i64 (F.blk i).term.var):=hX.cell 4;have q4l:=hX.lt;obtain⟨y,y0,y1,y2⟩:=Yn hX6;have ha:=HAH.out wr hW6 (F.blk i).term.var i hi ((F.blk i).insts.length:Int);have hbn:=Lh (hb.trans (hbq.mono hb.size));clear hX hX6 hb hbq hbk
             by_cases hk0:(F.blk i).term.kind=0
             · have hk1:((F.blk i).term.kind !=0)=false:=by simp[hk0]
               have HOK:=Lh (show YH F (Ys F) i=true by rw[HE.out,HTD.out,decide_eq_true hk0];rfl);generalize (F.blk i).term.kind=kd at *;clear hk0 ha;go_wp2;go_roundw
               case rel=>exact⟨i+1,ZN,ZO,fun t ht=>if h:t<i then HB.out t h else by
                obtain rfl:t=i:=by omega
                exact⟨HOR.out,HOK.out⟩,hbn.out⟩
               case measure=>simp[intOf];omega
             · have hk1:((F.blk i).term.kind !=0)=true:=by simp[hk0]
               have HOK:=Lh (show YH F (Ys F) i=YC F (Ys F) (F.blk i).term.var i ((F.blk i).insts.length:Int) by rw[HE.out,HTD.out,decide_eq_false hk0,Bool.false_or]);obtain⟨X,hX⟩:∃X,YC F (Ys F) (F.blk i).term.var i ((F.blk i).insts.length:Int)=X:=⟨_,rfl⟩;rw[hX]at ha HOK;clear hX;generalize (F.blk i).term.kind=kd at *;generalize (F.blk i).term.var=tv at *;clear hk0;cases X
               · as_aux_lemma=>
                 have HF:=Lh (HNB.out (.inr HOK.out));go_wp2_with fail;refine ha.mono ?_;rintro e w9 ⟨rfl,hb9⟩;go_wp2;go_ret;exact⟨Yb HF.out.symm,hB6.trans (hb9.mono hB6.size)⟩
               · as_aux_lemma=>
                 go_wp2_with fail;refine ha.mono ?_;rintro e w9 ⟨rfl,hb9⟩;go_wp2;go_roundw
                 case rel=>exact⟨i+1,ZN,ZO,fun t ht=>if h:t<i then HB.out t h else by
                  obtain rfl:t=i:=by omega
                  exact⟨HOR.out,HOK.out⟩,hbn.out.trans (hb9.mono hbn.out.size)⟩
                 case measure=>simp[intOf];omega
     · obtain rfl:i=F.blocks.length:=by omega
       have HF:=Lh (Yob HJ.out HO.out HB.out);go_wp2;go_ret;exact⟨Yb HF.out.symm,hBr⟩
end Go.Proofs.YtjlclkcmfokobaaGreatDoor
