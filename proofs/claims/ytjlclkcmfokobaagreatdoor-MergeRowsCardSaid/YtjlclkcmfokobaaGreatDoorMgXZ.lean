/- The reference's Same: of two programs that are the same it says so. -/
import Derived.Test.YtjlclkcmfokobaaGreatDoorSlcZ
import Derived.Test.YtjlclkcmfokobaaGreatDoorRefRZ
import Derived.Laws.StructEq
import Derived.Test.YtjlclkcmfokobaaGreatDoorMgUZ
import Derived.Test.YtjlclkcmfokobaaGreatDoorMgEZ
import Derived.Test.YtjlclkcmfokobaaGreatDoorSlQZ
namespace Go.Proofs.YtjlclkcmfokobaaGreatDoor
open Go.RowKit
set_option maxRecDepth 100000
set_option maxHeartbeats 1000000 in
theorem YeM{W w:World}{A A':Option Addr}{c c':Nat}{xs:List Int}(h:Rd W.heap.size A xs 1 (Yk W))(h':Rd W.heap.size A' xs 1 (Yk W))(hW:Below W.heap.size W w)(hl:xs.length≤281474976710656) :
 Calls Tryz.prog 41 #[.slice A xs.length c,.slice A' xs.length c'] w fun e w'=>e=.returned (.bool true)∧Below w.heap.size w w':=by
 go_enter Tryz.func41,Tryz.ntmps41;go_wp2
 go_loopw[13] (fun i wr=>∃n:Nat,i=.int .i64 n∧n≤xs.length∧Below w.heap.size w wr) (fun i _=>xs.length-(intOf i).toNat)
 case atStart=>exact⟨0,rfl,Nz _,Br _ _⟩
 case round=>as_aux_lemma=>
  obtain⟨n,rfl,hn,hb⟩:=hrel;have hWr:=hW.trans (hb.mono hW.size)
  by_cases hlt:n<xs.length
  · obtain⟨b,off,rfl,hbl,hc⟩:=h.int hWr hlt
    obtain⟨b2,off2,rfl,hbl2,hc2⟩:=h'.int hWr hlt;go_wp2_with fail
    go_quiet (fail)
    go_wp2_with fail;go_roundw
    case rel=>exact⟨n+1,ZN,ZO,bdrewN hb _⟩
    case measure=>simp[intOf];omega
  · go_wp2
    go_ret;exact⟨rfl,hb⟩
theorem eqA(k:Nat)(c d:Int)(w:World):(Op.equalIn (k+1+1) 37 (.agg #[.int .i64 c,.int .i64 d]) (.agg #[.int .i64 c,.int .i64 d])).run Tryz.prog w=.ok true w:=by
 have h1:=fun(x y:Int)=>run_equalIn_int (P:=Tryz.prog) w k 3 .i64 .i64 x y ZK
 generalize k+1=k1 at *;have h2:(Tryz.prog).underlying 37=some (.array 2 3):=by kernel_rfl
 have p0:(part 3 #[.int .i64 c,.int .i64 d] 0).run Tryz.prog w=.ok (.int .i64 c) w:=by kernel_rfl
 have p1:(part 3 #[.int .i64 c,.int .i64 d] 1).run Tryz.prog w=.ok (.int .i64 d) w:=by kernel_rfl
 simp[List.range',Op.equalIn,run_underlying h2,h1,p0,p1,Result.andThen]
theorem eqT(a b c d:Int)(w:World):(Op.equalIn 10000 39 (.agg #[.int .i64 a,.int .i64 b,.int .i64 c,.int .i64 d]) (.agg #[.int .i64 a,.int .i64 b,.int .i64 c,.int .i64 d])).run Tryz.prog w=.ok true w:=by
 show(Op.equalIn (9997+1+1+1) 39 (.agg #[.int .i64 a,.int .i64 b,.int .i64 c,.int .i64 d]) (.agg #[.int .i64 a,.int .i64 b,.int .i64 c,.int .i64 d])).run Tryz.prog w=.ok true w;rw[run_equalIn_struct w (9997+1+1) 39 _ _ ZK ZK];generalize 9997=k;simp[go_sem,eqA]
set_option maxHeartbeats 8000000 in
theorem Yjf{W w:World}{fv gv:Value}{F:PFunc}(hF:FnV W W.heap.size fv F)(hG:FnV W W.heap.size gv F)(hW:Below W.heap.size W w) :
 Calls Tryz.prog 14 #[fv,gv] w fun e w'=>e=.returned (.bool true)∧Below w.heap.size w w':=by
 obtain⟨A0,c0,A1,c1,A2,c2,rfl,l0,l1,l2,-,-,-,r0,r1,r2⟩:=id hF.open_;obtain⟨B0,d0,B1,d1,B2,d2,rfl,-,-,-,-,-,-,s0,s1,s2⟩:=id hG.open_;unfold Len at *;have hWs:=hW.size;have hb0:Below w.heap.size w ((w.alloc (.cells #[.slice A0 F.vars.length c0,.slice A1 F.params.length c1,.slice A2 F.blocks.length c2] 26)).alloc (.cells #[.slice B0 F.vars.length d0,.slice B1 F.params.length d1,.slice B2 F.blocks.length d2] 26)):=BL;obtain⟨wb,hwb⟩:∃wb,wb=((w.alloc (.cells #[.slice A0 F.vars.length c0,.slice A1 F.params.length c1,.slice A2 F.blocks.length c2] 26)).alloc (.cells #[.slice B0 F.vars.length d0,.slice B1 F.params.length d1,.slice B2 F.blocks.length d2] 26)):=⟨_,rfl⟩;have hsz:wb.heap.size=w.heap.size+2:=by rw[hwb];simp
 have x0:BoxAt wb w.heap.size #[.slice A0 F.vars.length c0,.slice A1 F.params.length c1,.slice A2 F.blocks.length c2] 26:=by rw[hwb];exact(BoxAt.new _ _ _).alloc _
 have x1:BoxAt wb (w.heap.size+1) #[.slice B0 F.vars.length d0,.slice B1 F.params.length d1,.slice B2 F.blocks.length d2] 26:=by
  rw[hwb];have:=BoxAt.new (w.alloc (.cells #[.slice A0 F.vars.length c0,.slice A1 F.params.length c1,.slice A2 F.blocks.length c2] 26)) #[.slice B0 F.vars.length d0,.slice B1 F.params.length d1,.slice B2 F.blocks.length d2] 26;simpa using this
 rw[← hwb]at hb0;go_enter Tryz.func14,Tryz.ntmps14;go_wp2_with(go_at_call 41;rw[← hwb];refine(YeM r1 s1 (hW.trans (hb0.mono hWs)) l1).mono ?_;rintro e w5 ⟨rfl,hb5⟩;have y0:=x0.below hb5 x0.lt;have y1:=x1.below hb5 x1.lt;have q00:=y0.cell 0;have q01:=y0.cell 1;have q02:=y0.cell 2;have q10:=y1.cell 0;have q11:=y1.cell 1;have q12:=y1.cell 2;have hl0:=y0.lt;have hl1:=y1.lt;simp at q00 q01 q02 q10 q11 q12);have hB5:=hb0.trans (hb5.mono hb0.size);clear q00 q01 q02 q10 q11 q12 hl0 hl1 y0 y1
 go_loopw[42] (fun i wr=>∃n:Nat,i=.int .i64 n∧n≤F.vars.length∧Below wb.heap.size wb wr) (fun i _=>F.vars.length-(intOf i).toNat)
 case atStart=>exact⟨0,rfl,Nz _,hb5⟩
 case round=>as_aux_lemma=>
  obtain⟨n,rfl,hn,hb⟩:=hrel;clear hb5 hB5;have hB:=hb0.trans (hb.mono hb0.size);have hWr:=hW.trans (hB.mono hWs);have y0:=x0.below hb x0.lt;have y1:=x1.below hb x1.lt;have q00:=y0.cell 0;have q02:=y0.cell 2;have q10:=y1.cell 0;have q12:=y1.cell 2;have hl0:=y0.lt;have hl1:=y1.lt;simp at q00 q02 q10 q12
  by_cases hlt:n<F.vars.length
  · obtain⟨b,off,rfl,hbl,hz,hc0,hc1⟩:=r0.var hWr hlt
    obtain⟨b2,off2,rfl,hbl2,hz2,hd0,hd1⟩:=s0.var hWr hlt;have heq:∀w:World,(Op.equalIn 10000 50 (.agg #[.string (F.var n).name,.int .i64 (F.var n).ty]) (.agg #[.string (F.var n).name,.int .i64 (F.var n).ty])).run Tryz.prog w=.ok true w:=fun w=>by
     show(Op.equalIn (9998+1+1) 50 _ _).run Tryz.prog w=.ok true w;rw[run_equalIn_struct w (9998+1) 50 _ _ ZK ZK];generalize 9998=k;simp[go_sem]
    clear q02 q12;go_wp2_with fail
    go_quiet (fail)
    go_wp2_with fail;go_roundw
    case rel=>exact⟨n+1,ZN,ZO,bdrewN hb _⟩
    case measure=>simp[intOf];omega
  · clear q00 q10
    go_wp2_with fail;clear hlt hn;obtain⟨wp,rfl⟩:∃wp:World,wp=wr:=⟨_,rfl⟩;clear q02 q12 y0 y1 hl0 hl1
    go_loopw[60] (fun i wr=>∃n:Nat,i=.int .i64 n∧n≤F.blocks.length∧Below wb.heap.size wb wr) (fun i _=>F.blocks.length-(intOf i).toNat)
    case atStart=>exact⟨0,rfl,Nz _,hb⟩
    case round=>as_aux_lemma=>
     clear hb hB hWr;obtain⟨n,rfl,hn,hb⟩:=hrel;have hB:=hb0.trans (hb.mono hb0.size);have hWr:=hW.trans (hB.mono hWs);have y1:=x1.below hb x1.lt;have q12:=y1.cell 2;have hl1:=y1.lt;simp at q12
     by_cases hlt:n<F.blocks.length
     · obtain⟨bb,off,A3,c3,A4,c4,rfl,hbb,hnz,hy0,hy1,hy2,hy3,hy4,hy5,hy6,l3,l4,k3,k4,r3,r4⟩:=r2.blk hWr hlt
       obtain⟨bb2,off2,B3,d3,B4,d4,rfl,hbb2,hnz2,hz0,hz1,hz2,hz3,hz4,hz5,hz6,-,-,-,-,s3,s4⟩:=s2.blk hWr hlt;unfold Len at l3 l4;have heq:=eqT (F.blk n).term.kind (F.blk n).term.var (F.blk n).term.t0 (F.blk n).term.t1;obtain⟨wq,rfl⟩:∃wq:World,wq=wr:=⟨_,rfl⟩;have hbq:Below wq.heap.size wq ((wq.alloc (.cells #[.string (F.blk n).name,.slice A3 (F.blk n).phis.length c3,.slice A4 (F.blk n).insts.length c4,.int .i64 (F.blk n).term.kind,.int .i64 (F.blk n).term.var,.int .i64 (F.blk n).term.t0,.int .i64 (F.blk n).term.t1] 41)).alloc (.cells #[.string (F.blk n).name,.slice B3 (F.blk n).phis.length d3,.slice B4 (F.blk n).insts.length d4,.int .i64 (F.blk n).term.kind,.int .i64 (F.blk n).term.var,.int .i64 (F.blk n).term.t0,.int .i64 (F.blk n).term.t1] 41)):=BL;obtain⟨wd,hwd⟩:∃wd,wd=((wq.alloc (.cells #[.string (F.blk n).name,.slice A3 (F.blk n).phis.length c3,.slice A4 (F.blk n).insts.length c4,.int .i64 (F.blk n).term.kind,.int .i64 (F.blk n).term.var,.int .i64 (F.blk n).term.t0,.int .i64 (F.blk n).term.t1] 41)).alloc (.cells #[.string (F.blk n).name,.slice B3 (F.blk n).phis.length d3,.slice B4 (F.blk n).insts.length d4,.int .i64 (F.blk n).term.kind,.int .i64 (F.blk n).term.var,.int .i64 (F.blk n).term.t0,.int .i64 (F.blk n).term.t1] 41)):=⟨_,rfl⟩;have u0:BoxAt wd wq.heap.size #[.string (F.blk n).name,.slice A3 (F.blk n).phis.length c3,.slice A4 (F.blk n).insts.length c4,.int .i64 (F.blk n).term.kind,.int .i64 (F.blk n).term.var,.int .i64 (F.blk n).term.t0,.int .i64 (F.blk n).term.t1] 41:=by rw[hwd];exact(BoxAt.new _ _ _).alloc _
       have u1:BoxAt wd (wq.heap.size+1) #[.string (F.blk n).name,.slice B3 (F.blk n).phis.length d3,.slice B4 (F.blk n).insts.length d4,.int .i64 (F.blk n).term.kind,.int .i64 (F.blk n).term.var,.int .i64 (F.blk n).term.t0,.int .i64 (F.blk n).term.t1] 41:=by
        rw[hwd];have:=BoxAt.new (wq.alloc (.cells #[.string (F.blk n).name,.slice A3 (F.blk n).phis.length c3,.slice A4 (F.blk n).insts.length c4,.int .i64 (F.blk n).term.kind,.int .i64 (F.blk n).term.var,.int .i64 (F.blk n).term.t0,.int .i64 (F.blk n).term.t1] 41)) #[.string (F.blk n).name,.slice B3 (F.blk n).phis.length d3,.slice B4 (F.blk n).insts.length d4,.int .i64 (F.blk n).term.kind,.int .i64 (F.blk n).term.var,.int .i64 (F.blk n).term.t0,.int .i64 (F.blk n).term.t1] 41;simpa using this
       rw[← hwd]at hbq;go_wp2_with fail;rw[← hwd];have hbd:=hb.trans (hbq.mono hb.size);clear hy0 hy1 hy2 hy3 hy4 hy5 hy6 hz0 hz1 hz2 hz3 hz4 hz5 hz6 heq hnz hnz2 hWr y1 q12
       go_loopw[103] (fun i wr=>∃k:Nat,i=.int .i64 k∧k≤(F.blk n).phis.length∧Below wd.heap.size wd wr) (fun i _=>(F.blk n).phis.length-(intOf i).toNat)
       case atStart=>exact⟨0,rfl,Nz _,Br _ _⟩
       case round=>as_aux_lemma=>
        obtain⟨k,rfl,hk,hbi⟩:=hrel;have hbw:=hbd.trans (hbi.mono hbd.size);have hBr:=hb0.trans (hbw.mono hb0.size);have hWi:=hW.trans (hBr.mono hWs);have v0:=u0.below hbi u0.lt;have v1:=u1.below hbi u1.lt;have g1:=v1.cell 1;have g2:=v0.cell 2;have gl0:=v0.lt;have gl1:=v1.lt;simp at g1 g2
        by_cases hkl:k<(F.blk n).phis.length
        · obtain⟨bp,op,A6,c6,A7,c7,rfl,hbp,hp0,hp1,hp2,l6,l7,-,-,r6,r7⟩:=r3.phi hWi hkl
          obtain⟨bp2,op2,B6,d6,B7,d7,rfl,hbp2,hs0,hs1,hs2,-,-,-,-,s6,s7⟩:=s3.phi hWi hkl;unfold Len at l6 l7;generalize (F.blk n).phi k=ph at *;obtain⟨wv,rfl⟩:∃wv:World,wv=wr:=⟨_,rfl⟩;clear g2;go_wp2_with fail;refine(YeM r6 s6 BL l6).mono ?_;rintro e w6 ⟨rfl,hb6⟩;have t0:=(((BoxAt.new wv #[.int .i64 ph.dst,.slice A6 ph.args.length c6,.slice A7 ph.froms.length c7] 76).alloc (.cells #[.int .i64 ph.dst,.slice B6 ph.args.length d6,.slice B7 ph.froms.length d7] 76)).below hb6 ZX);have t1:=(BoxAt.new (wv.alloc (.cells #[.int .i64 ph.dst,.slice A6 ph.args.length c6,.slice A7 ph.froms.length c7] 76)) #[.int .i64 ph.dst,.slice B6 ph.args.length d6,.slice B7 ph.froms.length d7] 76).below hb6 ZS;have t02:=t0.cell 2;have t12:=t1.cell 2;have tl0:=t0.lt;have tl1:=t1.lt;simp at t02 t12;have hB6:Below wv.heap.size wv w6:=(((Br _ _).alloc (Nr _) _).alloc ZS _).trans (hb6.mono ZX);go_wp2_with fail;refine(YeM r7 s7 (hWi.trans (hB6.mono hWi.size)) l7).mono ?_;rintro e w7 ⟨rfl,hb7⟩;go_wp2_with fail;go_roundw
          case rel=>exact⟨k+1,ZN,ZO,(hbi.trans (hB6.mono hbi.size)).trans (hb7.mono (hbi.trans (hB6.mono hbi.size)).size)⟩
          case measure=>simp[intOf];omega
        · clear g1
          go_wp2_with fail;clear hkl hk g2 v0 v1 gl0 gl1;obtain⟨wp2,rfl⟩:∃wp2:World,wp2=wr:=⟨_,rfl⟩
          go_loopw[138] (fun i wr=>∃k:Nat,i=.int .i64 k∧k≤(F.blk n).insts.length∧Below wd.heap.size wd wr) (fun i _=>(F.blk n).insts.length-(intOf i).toNat)
          case atStart=>exact⟨0,rfl,Nz _,hbi⟩
          case round=>as_aux_lemma=>
           clear hbi hbw hBr hWi;obtain⟨k,rfl,hk,hbi⟩:=hrel;have hbw:=hbd.trans (hbi.mono hbd.size);have hBr:=hb0.trans (hbw.mono hb0.size);have hWi:=hW.trans (hBr.mono hWs);have v1:=u1.below hbi u1.lt;have g2:=v1.cell 2;have gl1:=v1.lt;simp at g2
           by_cases hkl:k<(F.blk n).insts.length
           · obtain⟨bp,op,A6,c6,rfl,hbp,hp0,hp1,hp2,hp3,l6,-,r6⟩:=r4.inst hWi hkl
             obtain⟨bp2,op2,B6,d6,rfl,hbp2,hs0,hs1,hs2,hs3,-,-,s6⟩:=s4.inst hWi hkl;unfold Len at l6;generalize (F.blk n).inst k=xi at *;obtain⟨wv,rfl⟩:∃wv:World,wv=wr:=⟨_,rfl⟩;go_wp2_with fail;refine(YeM r6 s6 BL l6).mono ?_;rintro e w6 ⟨rfl,hb6⟩;have hB6:Below wv.heap.size wv w6:=(((Br _ _).alloc (Nr _) _).alloc ZS _).trans (hb6.mono ZX);go_wp2_with fail;go_roundw
             case rel=>exact⟨k+1,ZN,ZO,hbi.trans (hB6.mono hbi.size)⟩
             case measure=>simp[intOf];omega
           · clear g2
             go_wp2_with fail;go_roundw
             case rel=>exact⟨n+1,ZN,ZO,hbw⟩
             case measure=>simp[intOf];omega
     · clear q12
       go_wp2;go_ret;exact⟨rfl,hB⟩
theorem YeN{F:PFunc}:Yao F=(Yd F&&YaC F):=by
 unfold Yao YaD YaC;rw[Bool.and_assoc]
theorem Yjg{F:PFunc}(h:Yao F=true):Yd F=true∧YaC F=true∧Yr F=true:=by
 rw[YeN,Bool.and_eq_true]at h;refine⟨h.1,h.2,?_⟩;have h2:=h.2;unfold YaC Yak at h2;simp only[Bool.and_eq_true]at h2;exact h2.1.1.2
set_option maxHeartbeats 8000000 in
theorem Yo4{W:World}{fv:Value}{F:PFunc}(hU:Uni W)(hF:FnV W W.heap.size fv F)(hnum:∀b∈F.blocks,∀x∈b.insts,(Lit.int .i64 x.num).wf=true) :
 Calls Tryz.prog 3 #[fv] W fun e w'=>e=.returned (.bool true)∧Below W.heap.size W w':=by
 have hlv:=fun(w:World) (h:Below W.heap.size W w)=>Yi1 hU h
 have hfw:=fun(w:World) (h:Below W.heap.size W w)=>Yik hF h
 have hsg:=fun(w:World) (h:Below W.heap.size W w)=>Ygo hU hF h
 obtain⟨w,rfl⟩:∃w:World,w=W:=⟨_,rfl⟩;obtain⟨A0,c0,A1,c1,A2,c2,rfl,l0,l1,l2,-,-,-,r0,r1,r2⟩:=id hF.open_;unfold Len at *;clear r0 r1 r2;have hb0:=(Br w.heap.size w).alloc (Nr _) (.cells #[.slice A0 F.vars.length c0,.slice A1 F.params.length c1,.slice A2 F.blocks.length c2] 26);have HX0:=Lh (BoxAt.new w #[.slice A0 F.vars.length c0,.slice A1 F.params.length c1,.slice A2 F.blocks.length c2] 26);cases hx:Yv F
 · as_aux_lemma=>
   rw[hx]at hfw;clear hx hF hsg hnum;go_enter Tryz.func3,Tryz.ntmps3;go_wp2_with fail;refine(hlv _ hb0).mono ?_;rintro e w1 ⟨rfl,hb1⟩;have hx1:=HX0.out.below hb1 HX0.out.lt;have hB1:=hb0.trans (hb1.mono hb0.size);have q0:=hx1.cell 0;have q1:=hx1.cell 1;have q2:=hx1.cell 2;have ql:=hx1.lt;simp at q0 q1 q2;go_wp2_with fail;refine(hfw _ hB1).mono ?_;rintro e w2 ⟨rfl,hb2⟩;have hB2:=hB1.trans (hb2.mono hB1.size);clear q0 q1 q2 ql;go_wp2_with fail;refine(hlv _ hB2).mono ?_;rintro e w3 ⟨rfl,hb3⟩;have hB3:=hB2.trans (hb3.mono hB2.size);go_wp2;go_ret;exact⟨rfl,hB3⟩
 have hS:=Yde hx;have hBn:=YeF hx;rw[hx]at hfw;rw[show Ya2 F=Yd F by rw[Ya2,hx,Bool.true_and],← YeN]at hsg;have hmg:=fun(w':World) (h:Below w.heap.size w w')=>YeJ hU hF h hS hBn hnum
 unfold Ydi at hmg;cases hR:Yao F
 · as_aux_lemma=>
   rw[hR]at hsg hmg;clear hx hR hU hF hS hBn hnum;go_enter Tryz.func3,Tryz.ntmps3;go_wp2_with fail;refine(hlv _ hb0).mono ?_;rintro e w1 ⟨rfl,hb1⟩;have hx1:=HX0.out.below hb1 HX0.out.lt;have hB1:=hb0.trans (hb1.mono hb0.size);have q0:=hx1.cell 0;have q1:=hx1.cell 1;have q2:=hx1.cell 2;have ql:=hx1.lt;simp at q0 q1 q2;go_wp2_with fail;refine(hfw _ hB1).mono ?_;rintro e w2 ⟨rfl,hb2⟩;have hx2:=hx1.below hb2 hx1.lt;have hB2:=hB1.trans (hb2.mono hB1.size);clear q0 q1 q2 ql hb1 hb2 hx1 hB1 hlv hfw;have q0:=hx2.cell 0;have q1:=hx2.cell 1;have q2:=hx2.cell 2;have ql:=hx2.lt;simp at q0 q1 q2;go_wp2_with fail;refine(hmg _ hB2).mono ?_;rintro e w5 ⟨⟨-,rfl⟩|⟨h,-⟩,hb5⟩
   rotate_left
   · cases h
   obtain⟨w6,hw6⟩:∃w6:World,w6=w5.alloc (.cells #[.slice none 0 0,.slice none 0 0,.slice none 0 0] 26):=⟨_,rfl⟩;have hb6:Below w5.heap.size w5 w6:=by rw[hw6];exact YO _ _
   have hg6:BoxAt w6 w5.heap.size #[.slice none 0 0,.slice none 0 0,.slice none 0 0] 26:=by rw[hw6];exact BoxAt.new _ _ _
   have hB5:=hB2.trans (hb5.mono hB2.size);have hx6:=(hx2.below hb5 hx2.lt).below hb6 (hx2.below hb5 hx2.lt).lt;have hB6:=hB5.trans (hb6.mono hB5.size);clear q0 q1 q2 ql hx2 hB2 hb5 hb6 hB5 hmg
   go_upto_region 4 with fail
   go_loud (rw[← hw6])
   clear hw6;have q0:=hx6.cell 0;have q1:=hx6.cell 1;have q2:=hx6.cell 2;have ql:=hx6.lt;simp at q0 q1 q2;go_wp2_with fail;refine(hsg _ hB6).mono ?_;rintro e w8 ⟨rfl,hb8⟩;have hg8:=hg6.below hb8 hg6.lt;have hB8:=hB6.trans (hb8.mono hB6.size);clear q0 q1 q2 ql hx6 hg6 hB6 hb8 hsg;have g2:=hg8.cell 2;have gl:=hg8.lt;simp at g2;go_wp2;go_ret;exact⟨rfl,hB8⟩
 as_aux_lemma=>
 obtain⟨hT,-,hO⟩:=Yjg hR;have HRM:=Lh (fun(w':World) (h:Below w.heap.size w w')=>Yo3 hF h hT hO hBn);rw[hR]at hsg hmg;clear hx hR hU hF hS hBn hT hO hnum;go_enter Tryz.func3,Tryz.ntmps3;go_wp2_with fail;refine(hlv _ hb0).mono ?_;rintro e w1 ⟨rfl,hb1⟩;have hx1:=HX0.out.below hb1 HX0.out.lt;have hB1:=hb0.trans (hb1.mono hb0.size);have q0:=hx1.cell 0;have q1:=hx1.cell 1;have q2:=hx1.cell 2;have ql:=hx1.lt;simp at q0 q1 q2;go_wp2_with fail;refine(hfw _ hB1).mono ?_;rintro e w2 ⟨rfl,hb2⟩;have hx2:=hx1.below hb2 hx1.lt;have hB2:=hB1.trans (hb2.mono hB1.size);clear q0 q1 q2 ql hb1 hb2 hx1 hB1 hlv hfw;have q0:=hx2.cell 0;have q1:=hx2.cell 1;have q2:=hx2.cell 2;have ql:=hx2.lt;simp at q0 q1 q2;go_wp2_with fail;refine(hmg _ hB2).mono ?_;rintro e w5 ⟨⟨h,-⟩|⟨-,gv,rfl,hG⟩,hb5⟩
 · cases h
 obtain⟨G,hGe⟩:∃G,G=mrgF F:=⟨_,rfl⟩;rw[← hGe]at hG;have HGE:=Lh hGe;obtain⟨B0,d0,B1,d1,B2,d2,rfl,m0,m1,m2,-,-,-,-,-,-⟩:=id hG.open_;unfold Len at m0 m1 m2;obtain⟨w6,hw6⟩:∃w6:World,w6=w5.alloc (.cells #[.slice B0 G.vars.length d0,.slice B1 G.params.length d1,.slice B2 G.blocks.length d2] 26):=⟨_,rfl⟩;have hb6:Below w5.heap.size w5 w6:=by rw[hw6];exact YO _ _
 have hg6:BoxAt w6 w5.heap.size #[.slice B0 G.vars.length d0,.slice B1 G.params.length d1,.slice B2 G.blocks.length d2] 26:=by rw[hw6];exact BoxAt.new _ _ _
 have hB5:=hB2.trans (hb5.mono hB2.size);have hx6:=(hx2.below hb5 hx2.lt).below hb6 (hx2.below hb5 hx2.lt).lt;have hB6:=hB5.trans (hb6.mono hB5.size);have HG5:=Lh hG;have HB56:=Lh hb6;clear q0 q1 q2 ql hx2 hB2 hb5 hb6 hB5 hmg hG hGe
 go_upto_region 4 with fail
 go_loud (rw[← hw6])
 clear hw6;have q0:=hx6.cell 0;have q1:=hx6.cell 1;have q2:=hx6.cell 2;have ql:=hx6.lt;simp at q0 q1 q2;go_wp2_with fail;refine(hsg _ hB6).mono ?_;rintro e w9 ⟨rfl,hb9⟩;have hx9:=hx6.below hb9 hx6.lt;have hg9:=hg6.below hb9 hg6.lt;have hB9:=hB6.trans (hb9.mono hB6.size);have h59:=HB56.out.trans (hb9.mono HB56.out.size);have hG9:=HG5.out.keep (Kept.of_below h59) h59.size;have HSM:=Lh (fun(w' wz:World) (v9:Value) (h:Below w9.heap.size w9 w') (hv:FnV w' w'.heap.size v9 (mrgF F)) (h2:Below w'.heap.size w' wz)=>Yjf (hG9.keep (Kept.of_below h) h.size) (by rw[HGE.out];exact hv) h2);have HB9:=Lh hB9;clear q0 q1 q2 ql hx6 hg6 hB6 hb9 hsg hG9 h59 hB9;have q0:=hx9.cell 0;have q1:=hx9.cell 1;have q2:=hx9.cell 2;have ql:=hx9.lt;have g0:=hg9.cell 0;have g1:=hg9.cell 1;have g2:=hg9.cell 2;have gl:=hg9.lt;simp at q0 q1 q2 g0 g1 g2;clear hx9 hg9
 go_upto_region 6 with fail
 obtain⟨S0,hS0⟩:∃S0:World→Prop,S0=fun w'=>w'.cell? ⟨w.heap.size,0,none⟩=some (.slice A0 F.vars.length c0)∧w'.cell? ⟨w.heap.size,1,none⟩=some (.slice A1 F.params.length c1)∧w'.cell? ⟨w.heap.size,2,none⟩=some (.slice A2 F.blocks.length c2)∧w'.cell? ⟨w5.heap.size,0,none⟩=some (.slice B0 G.vars.length d0)∧w'.cell? ⟨w5.heap.size,1,none⟩=some (.slice B1 G.params.length d1)∧w'.cell? ⟨w5.heap.size,2,none⟩=some (.slice B2 G.blocks.length d2)∧Below w9.heap.size w9 w'∧w.heap.size<w'.heap.size∧w5.heap.size<w'.heap.size:=⟨_,rfl⟩
 have HS0:=Lh hS0;clear hS0;have k0:=fun xw=>(WS.at HS0 xw).1
 have k1:=fun xw=>(WS.at HS0 xw).2.1
 have k2:=fun xw=>(WS.at HS0 xw).2.2.1
 have k3:=fun xw=>(WS.at HS0 xw).2.2.2.1
 have k4:=fun xw=>(WS.at HS0 xw).2.2.2.2.1
 have k5:=fun xw=>(WS.at HS0 xw).2.2.2.2.2.1
 have k6:=fun xw=>(WS.at HS0 xw).2.2.2.2.2.2.1
 have k7:=fun xw=>(WS.at HS0 xw).2.2.2.2.2.2.2.1
 have k8:=fun xw=>(WS.at HS0 xw).2.2.2.2.2.2.2.2
 refine Yz (S:=S0) [0,1,2,3,4,5,6,7,8] ZK ZK (fun _ _ _ _ _ h=>h) ?hS (fun hSc=>?_)
 case hS=>
  rw[HS0.out];exact⟨ZI,ZI,ZI,ZI,ZI,ZI,BL,ZJ,ZJ⟩
 have hne0:Nonempty (WS S0):=⟨⟨_,hSc⟩⟩;simp only[List.map_cons,List.map_nil,Ld,Le]
 repeat
  first
  |((with_reducible refine YA ?_ ?_);exact rfl;go_big_quiet_step (fail);(try with_reducible refine wpQuiet_nil ?_);(try dsimp only))
  |((with_reducible refine YF ?_ ?_ (fun K hK=>?_))
    exact rfl;exact rfl;go_simp;(try go_wp2_with(first|(go_at_call 15;refine(HRM.out _ (HB9.out.trans (Below.mono BL HB9.out.size))).mono ?_;rintro e wv ⟨⟨vv,rfl,hvv⟩,hbv⟩;have hb9:=hbv;obtain⟨hc9,hf9⟩:=Ya hb9;have hz9:=hb9.size;(try simp at hz9))|(go_at_call 14;refine(HSM.out _ _ _ BL hvv BL).mono ?_;rintro e ws ⟨rfl,hbs⟩;have hb9:=hbs;obtain⟨hc9,hf9⟩:=Ya hb9;have hz9:=hb9.size;(try simp at hz9))));refine hK.out _ _ ?hS (fun hSc=>?_)
    case hS=>
     first
     |exact hSc
     |(rw[HS0.out]at hSc ⊢;obtain⟨p0,p1,p2,p3,p4,p5,p6,p7,p8⟩:=hSc;exact⟨ZC0,ZC1,ZC2,ZC3,ZC4,ZC5,ZL6,ZT7,ZT8⟩)
    clear hK K)
 refine YB ?_;rw[HS0.out]at hSc;obtain⟨p0,p1,p2,p3,p4,p5,p6,p7,p8⟩:=hSc;clear hne0 HS0 k0 k1 k2 k3 k4 k5 k6 k7 k8;have HP6:=Lh p6;clear HSM HRM;go_wp2;go_ret;exact⟨rfl,HB9.out.trans (HP6.out.mono HB9.out.size)⟩
end Go.Proofs.YtjlclkcmfokobaaGreatDoor
