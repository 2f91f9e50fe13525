/- The reference's Same: of two programs that are the same it says so. -/
import Derived.Test.YthhjlbflpjhahaaGreatDoorSlcN
import Derived.Test.YthhjlbflpjhahaaGreatDoorRefRN
import Derived.Laws.StructEq
namespace Go.Proofs.YthhjlbflpjhahaaGreatDoor
open Go.RowKit
set_option maxRecDepth 100000
set_option maxHeartbeats 1000000 in
theorem YdP{W w:World}{A A':Option Addr}{c c':Nat}{xs:List Int}(h:Rd W.heap.size A xs 1 (Yi W))(h':Rd W.heap.size A' xs 1 (Yi W))(hW:Below W.heap.size W w)(hl:xs.length≤281474976710656) :
 Calls Tryz.prog 43 #[.slice A xs.length c,.slice A' xs.length c'] w fun e w'=>e=.returned (.bool true)∧Below w.heap.size w w':=by
 go_enter Tryz.func43,Tryz.ntmps43;go_wp2
 go_loopw[13] (fun i wr=>∃n:Nat,i=.int .i64 n∧n≤xs.length∧Below w.heap.size w wr) (fun i _=>xs.length-(intOf i).toNat)
 case atStart=>exact⟨0,rfl,Nz _,Br _ _⟩
 case round=>as_aux_lemma=>
  obtain⟨n,rfl,hn,hb⟩:=hrel;have hWr:=hW.trans (hb.mono hW.size)
  by_cases hlt:n<xs.length
  · obtain⟨b,off,rfl,hbl,hc⟩:=h.int hWr hlt
    obtain⟨b2,off2,rfl,hbl2,hc2⟩:=h'.int hWr hlt;go_wp2_with fail
    go_quiet (fail)
    go_wp2_with fail;go_roundw
    case rel=>exact⟨n+1,ZN,ZO,Yb3 hb _⟩
    case measure=>simp[intOf];omega
  · go_wp2
    go_ret;exact⟨rfl,hb⟩
theorem eqA(k:Nat)(c d:Int)(w:World):(Op.equalIn (k+1+1) 58 (.agg #[.int .i64 c,.int .i64 d]) (.agg #[.int .i64 c,.int .i64 d])).run Tryz.prog w=.ok true w:=by
 have h1:=fun(x y:Int)=>run_equalIn_int (P:=Tryz.prog) w k 3 .i64 .i64 x y ZK
 generalize k+1=k1 at *;have h2:(Tryz.prog).underlying 58=some (.array 2 3):=by kernel_rfl
 have p0:(part 3 #[.int .i64 c,.int .i64 d] 0).run Tryz.prog w=.ok (.int .i64 c) w:=by kernel_rfl
 have p1:(part 3 #[.int .i64 c,.int .i64 d] 1).run Tryz.prog w=.ok (.int .i64 d) w:=by kernel_rfl
 simp[List.range',Op.equalIn,run_underlying h2,h1,p0,p1,Result.andThen]
theorem eqT(a b c d:Int)(w:World):(Op.equalIn 10000 60 (.agg #[.int .i64 a,.int .i64 b,.int .i64 c,.int .i64 d]) (.agg #[.int .i64 a,.int .i64 b,.int .i64 c,.int .i64 d])).run Tryz.prog w=.ok true w:=by
 show(Op.equalIn (9997+1+1+1) 60 (.agg #[.int .i64 a,.int .i64 b,.int .i64 c,.int .i64 d]) (.agg #[.int .i64 a,.int .i64 b,.int .i64 c,.int .i64 d])).run Tryz.prog w=.ok true w;rw[run_equalIn_struct w (9997+1+1) 60 _ _ ZK ZK];generalize 9997=k;simp[go_sem,eqA]
set_option maxHeartbeats 8000000 in
theorem Ymf{W w:World}{fv gv:Value}{F:PFunc}(hF:FnV W W.heap.size fv F)(hG:FnV W W.heap.size gv F)(hW:Below W.heap.size W w) :
 Calls Tryz.prog 17 #[fv,gv] w fun e w'=>e=.returned (.bool true)∧Below w.heap.size w w':=by
 obtain⟨A0,c0,A1,c1,A2,c2,rfl,l0,l1,l2,-,-,-,r0,r1,r2⟩:=id hF.open_;obtain⟨B0,d0,B1,d1,B2,d2,rfl,-,-,-,-,-,-,s0,s1,s2⟩:=id hG.open_;unfold Len at *;have hWs:=hW.size;have hb0:Below w.heap.size w ((w.alloc (.cells #[.slice A0 F.vars.length c0,.slice A1 F.params.length c1,.slice A2 F.blocks.length c2] 26)).alloc (.cells #[.slice B0 F.vars.length d0,.slice B1 F.params.length d1,.slice B2 F.blocks.length d2] 26)):=BL;obtain⟨wb,hwb⟩:∃wb,wb=((w.alloc (.cells #[.slice A0 F.vars.length c0,.slice A1 F.params.length c1,.slice A2 F.blocks.length c2] 26)).alloc (.cells #[.slice B0 F.vars.length d0,.slice B1 F.params.length d1,.slice B2 F.blocks.length d2] 26)):=⟨_,rfl⟩;have hsz:wb.heap.size=w.heap.size+2:=by rw[hwb];simp
 have x0:BoxAt wb w.heap.size #[.slice A0 F.vars.length c0,.slice A1 F.params.length c1,.slice A2 F.blocks.length c2] 26:=by rw[hwb];exact(BoxAt.new _ _ _).alloc _
 have x1:BoxAt wb (w.heap.size+1) #[.slice B0 F.vars.length d0,.slice B1 F.params.length d1,.slice B2 F.blocks.length d2] 26:=by
  rw[hwb];have:=BoxAt.new (w.alloc (.cells #[.slice A0 F.vars.length c0,.slice A1 F.params.length c1,.slice A2 F.blocks.length c2] 26)) #[.slice B0 F.vars.length d0,.slice B1 F.params.length d1,.slice B2 F.blocks.length d2] 26;simpa using this
 rw[← hwb]at hb0;go_enter Tryz.func17,Tryz.ntmps17;go_wp2_with(go_at_call 43;rw[← hwb];refine(YdP r1 s1 (hW.trans (hb0.mono hWs)) l1).mono ?_;rintro e w5 ⟨rfl,hb5⟩;have y0:=x0.below hb5 x0.lt;have y1:=x1.below hb5 x1.lt;have q00:=y0.cell 0;have q01:=y0.cell 1;have q02:=y0.cell 2;have q10:=y1.cell 0;have q11:=y1.cell 1;have q12:=y1.cell 2;have hl0:=y0.lt;have hl1:=y1.lt;simp at q00 q01 q02 q10 q11 q12);have hB5:=hb0.trans (hb5.mono hb0.size);clear q00 q01 q02 q10 q11 q12 hl0 hl1 y0 y1
 go_loopw[42] (fun i wr=>∃n:Nat,i=.int .i64 n∧n≤F.vars.length∧Below wb.heap.size wb wr) (fun i _=>F.vars.length-(intOf i).toNat)
 case atStart=>exact⟨0,rfl,Nz _,hb5⟩
 case round=>as_aux_lemma=>
  obtain⟨n,rfl,hn,hb⟩:=hrel;clear hb5 hB5;have hB:=hb0.trans (hb.mono hb0.size);have hWr:=hW.trans (hB.mono hWs);have y0:=x0.below hb x0.lt;have y1:=x1.below hb x1.lt;have q00:=y0.cell 0;have q02:=y0.cell 2;have q10:=y1.cell 0;have q12:=y1.cell 2;have hl0:=y0.lt;have hl1:=y1.lt;simp at q00 q02 q10 q12
  by_cases hlt:n<F.vars.length
  · obtain⟨b,off,rfl,hbl,hz,hc0,hc1⟩:=r0.var hWr hlt
    obtain⟨b2,off2,rfl,hbl2,hz2,hd0,hd1⟩:=s0.var hWr hlt;have heq:∀w:World,(Op.equalIn 10000 78 (.agg #[.string (F.var n).name,.int .i64 (F.var n).ty]) (.agg #[.string (F.var n).name,.int .i64 (F.var n).ty])).run Tryz.prog w=.ok true w:=fun w=>by
     show(Op.equalIn (9998+1+1) 78 _ _).run Tryz.prog w=.ok true w;rw[run_equalIn_struct w (9998+1) 78 _ _ ZK ZK];generalize 9998=k;simp[go_sem]
    clear q02 q12;go_wp2_with fail
    go_quiet (fail)
    go_wp2_with fail;go_roundw
    case rel=>exact⟨n+1,ZN,ZO,Yb3 hb _⟩
    case measure=>simp[intOf];omega
  · clear q00 q10
    go_wp2_with fail;clear hlt hn;obtain⟨wp,rfl⟩:∃wp:World,wp=wr:=⟨_,rfl⟩;clear q02 q12 y0 y1 hl0 hl1
    go_loopw[60] (fun i wr=>∃n:Nat,i=.int .i64 n∧n≤F.blocks.length∧Below wb.heap.size wb wr) (fun i _=>F.blocks.length-(intOf i).toNat)
    case atStart=>exact⟨0,rfl,Nz _,hb⟩
    case round=>as_aux_lemma=>
     clear hb hB hWr;obtain⟨n,rfl,hn,hb⟩:=hrel;have hB:=hb0.trans (hb.mono hb0.size);have hWr:=hW.trans (hB.mono hWs);have y1:=x1.below hb x1.lt;have q12:=y1.cell 2;have hl1:=y1.lt;simp at q12
     by_cases hlt:n<F.blocks.length
     · obtain⟨bb,off,A3,c3,A4,c4,rfl,hbb,hnz,hy0,hy1,hy2,hy3,hy4,hy5,hy6,l3,l4,k3,k4,r3,r4⟩:=r2.blk hWr hlt
       obtain⟨bb2,off2,B3,d3,B4,d4,rfl,hbb2,hnz2,hz0,hz1,hz2,hz3,hz4,hz5,hz6,-,-,-,-,s3,s4⟩:=s2.blk hWr hlt;unfold Len at l3 l4;have heq:=eqT (F.blk n).term.kind (F.blk n).term.var (F.blk n).term.t0 (F.blk n).term.t1;obtain⟨wq,rfl⟩:∃wq:World,wq=wr:=⟨_,rfl⟩;have hbq:Below wq.heap.size wq ((wq.alloc (.cells #[.string (F.blk n).name,.slice A3 (F.blk n).phis.length c3,.slice A4 (F.blk n).insts.length c4,.int .i64 (F.blk n).term.kind,.int .i64 (F.blk n).term.var,.int .i64 (F.blk n).term.t0,.int .i64 (F.blk n).term.t1] 62)).alloc (.cells #[.string (F.blk n).name,.slice B3 (F.blk n).phis.length d3,.slice B4 (F.blk n).insts.length d4,.int .i64 (F.blk n).term.kind,.int .i64 (F.blk n).term.var,.int .i64 (F.blk n).term.t0,.int .i64 (F.blk n).term.t1] 62)):=BL;obtain⟨wd,hwd⟩:∃wd,wd=((wq.alloc (.cells #[.string (F.blk n).name,.slice A3 (F.blk n).phis.length c3,.slice A4 (F.blk n).insts.length c4,.int .i64 (F.blk n).term.kind,.int .i64 (F.blk n).term.var,.int .i64 (F.blk n).term.t0,.int .i64 (F.blk n).term.t1] 62)).alloc (.cells #[.string (F.blk n).name,.slice B3 (F.blk n).phis.length d3,.slice B4 (F.blk n).insts.length d4,.int .i64 (F.blk n).term.kind,.int .i64 (F.blk n).term.var,.int .i64 (F.blk n).term.t0,.int .i64 (F.blk n).term.t1] 62)):=⟨_,rfl⟩;have u0:BoxAt wd wq.heap.size #[.string (F.blk n).name,.slice A3 (F.blk n).phis.length c3,.slice A4 (F.blk n).insts.length c4,.int .i64 (F.blk n).term.kind,.int .i64 (F.blk n).term.var,.int .i64 (F.blk n).term.t0,.int .i64 (F.blk n).term.t1] 62:=by rw[hwd];exact(BoxAt.new _ _ _).alloc _
       have u1:BoxAt wd (wq.heap.size+1) #[.string (F.blk n).name,.slice B3 (F.blk n).phis.length d3,.slice B4 (F.blk n).insts.length d4,.int .i64 (F.blk n).term.kind,.int .i64 (F.blk n).term.var,.int .i64 (F.blk n).term.t0,.int .i64 (F.blk n).term.t1] 62:=by
        rw[hwd];have:=BoxAt.new (wq.alloc (.cells #[.string (F.blk n).name,.slice A3 (F.blk n).phis.length c3,.slice A4 (F.blk n).insts.length c4,.int .i64 (F.blk n).term.kind,.int .i64 (F.blk n).term.var,.int .i64 (F.blk n).term.t0,.int .i64 (F.blk n).term.t1] 62)) #[.string (F.blk n).name,.slice B3 (F.blk n).phis.length d3,.slice B4 (F.blk n).insts.length d4,.int .i64 (F.blk n).term.kind,.int .i64 (F.blk n).term.var,.int .i64 (F.blk n).term.t0,.int .i64 (F.blk n).term.t1] 62;simpa using this
       rw[← hwd]at hbq;go_wp2_with fail;rw[← hwd];have hbd:=hb.trans (hbq.mono hb.size);clear hy0 hy1 hy2 hy3 hy4 hy5 hy6 hz0 hz1 hz2 hz3 hz4 hz5 hz6 heq hnz hnz2 hWr y1 q12
       go_loopw[103] (fun i wr=>∃k:Nat,i=.int .i64 k∧k≤(F.blk n).phis.length∧Below wd.heap.size wd wr) (fun i _=>(F.blk n).phis.length-(intOf i).toNat)
       case atStart=>exact⟨0,rfl,Nz _,Br _ _⟩
       case round=>as_aux_lemma=>
        obtain⟨k,rfl,hk,hbi⟩:=hrel;have hbw:=hbd.trans (hbi.mono hbd.size);have hBr:=hb0.trans (hbw.mono hb0.size);have hWi:=hW.trans (hBr.mono hWs);have v0:=u0.below hbi u0.lt;have v1:=u1.below hbi u1.lt;have g1:=v1.cell 1;have g2:=v0.cell 2;have gl0:=v0.lt;have gl1:=v1.lt;simp at g1 g2
        by_cases hkl:k<(F.blk n).phis.length
        · obtain⟨bp,op,A6,c6,A7,c7,rfl,hbp,hp0,hp1,hp2,l6,l7,-,-,r6,r7⟩:=r3.phi hWi hkl
          obtain⟨bp2,op2,B6,d6,B7,d7,rfl,hbp2,hs0,hs1,hs2,-,-,-,-,s6,s7⟩:=s3.phi hWi hkl;unfold Len at l6 l7;generalize (F.blk n).phi k=ph at *;obtain⟨wv,rfl⟩:∃wv:World,wv=wr:=⟨_,rfl⟩;clear g2;go_wp2_with fail;refine(YdP r6 s6 BL l6).mono ?_;rintro e w6 ⟨rfl,hb6⟩;have t0:=(((BoxAt.new wv #[.int .i64 ph.dst,.slice A6 ph.args.length c6,.slice A7 ph.froms.length c7] 64).alloc (.cells #[.int .i64 ph.dst,.slice B6 ph.args.length d6,.slice B7 ph.froms.length d7] 64)).below hb6 ZX);have t1:=(BoxAt.new (wv.alloc (.cells #[.int .i64 ph.dst,.slice A6 ph.args.length c6,.slice A7 ph.froms.length c7] 64)) #[.int .i64 ph.dst,.slice B6 ph.args.length d6,.slice B7 ph.froms.length d7] 64).below hb6 ZS;have t02:=t0.cell 2;have t12:=t1.cell 2;have tl0:=t0.lt;have tl1:=t1.lt;simp at t02 t12;have hB6:Below wv.heap.size wv w6:=(((Br _ _).alloc (Nr _) _).alloc ZS _).trans (hb6.mono ZX);go_wp2_with fail;refine(YdP r7 s7 (hWi.trans (hB6.mono hWi.size)) l7).mono ?_;rintro e w7 ⟨rfl,hb7⟩;go_wp2_with fail;go_roundw
          case rel=>exact⟨k+1,ZN,ZO,(hbi.trans (hB6.mono hbi.size)).trans (hb7.mono (hbi.trans (hB6.mono hbi.size)).size)⟩
          case measure=>simp[intOf];omega
        · clear g1
          go_wp2_with fail;clear hkl hk g2 v0 v1 gl0 gl1;obtain⟨wp2,rfl⟩:∃wp2:World,wp2=wr:=⟨_,rfl⟩
          go_loopw[138] (fun i wr=>∃k:Nat,i=.int .i64 k∧k≤(F.blk n).insts.length∧Below wd.heap.size wd wr) (fun i _=>(F.blk n).insts.length-(intOf i).toNat)
          case atStart=>exact⟨0,rfl,Nz _,hbi⟩
          case round=>as_aux_lemma=>
           clear hbi hbw hBr hWi;obtain⟨k,rfl,hk,hbi⟩:=hrel;have hbw:=hbd.trans (hbi.mono hbd.size);have hBr:=hb0.trans (hbw.mono hb0.size);have hWi:=hW.trans (hBr.mono hWs);have v1:=u1.below hbi u1.lt;have g2:=v1.cell 2;have gl1:=v1.lt;simp at g2
           by_cases hkl:k<(F.blk n).insts.length
           · obtain⟨bp,op,A6,c6,rfl,hbp,hp0,hp1,hp2,hp3,l6,-,r6⟩:=r4.inst hWi hkl
             obtain⟨bp2,op2,B6,d6,rfl,hbp2,hs0,hs1,hs2,hs3,-,-,s6⟩:=s4.inst hWi hkl;unfold Len at l6;generalize (F.blk n).inst k=xi at *;obtain⟨wv,rfl⟩:∃wv:World,wv=wr:=⟨_,rfl⟩;go_wp2_with fail;refine(YdP r6 s6 BL l6).mono ?_;rintro e w6 ⟨rfl,hb6⟩;have hB6:Below wv.heap.size wv w6:=(((Br _ _).alloc (Nr _) _).alloc ZS _).trans (hb6.mono ZX);go_wp2_with fail;go_roundw
             case rel=>exact⟨k+1,ZN,ZO,hbi.trans (hB6.mono hbi.size)⟩
             case measure=>simp[intOf];omega
           · clear g2
             go_wp2_with fail;go_roundw
             case rel=>exact⟨n+1,ZN,ZO,hbw⟩
             case measure=>simp[intOf];omega
     · clear q12
       go_wp2;go_ret;exact⟨rfl,hB⟩
end Go.Proofs.YthhjlbflpjhahaaGreatDoor
