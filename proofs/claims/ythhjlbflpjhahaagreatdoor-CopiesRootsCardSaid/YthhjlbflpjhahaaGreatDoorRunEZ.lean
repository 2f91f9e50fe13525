/- The walk of enter of the document's run. -/
import Derived.Test.YthhjlbflpjhahaaGreatDoorRunYZ
namespace Go.Proofs.YthhjlbflpjhahaaGreatDoor
open Go.RowKit
set_option maxRecDepth 100000
section
variable {W w:World} {D:Nat→Prop} {nb gi gb ga tb:Nat} {vr vt:Value} {vrs:List Value} {s:RSt} {F:PFunc} {A0 A1 A2:Option Addr} {c0 c1 c2:Nat}
set_option maxHeartbeats 16000000 in
theorem Ype(hF:FnV W W.heap.size (.agg #[.slice A0 F.vars.length c0,.slice A1 F.params.length c1,.slice A2 F.blocks.length c2]) F)(hSh:Yk F=true)(hS:Yav F)(hW:Below W.heap.size W w)(hI:RInv F s)(ht:tb<F.blocks.length)
 (h:RunO w D (.slice A0 F.vars.length c0) (.slice A1 F.params.length c1) (.slice A2 F.blocks.length c2) nb gi gb ga F.vars.length vr vt vrs s) (hD:∀k,D k→k<w.heap.size) (hDW:∀k,k<W.heap.size→D k) :
 Calls Tryz.prog 62 #[.pointer (some ⟨nb,0,none⟩),.int .i64 (tb:Int)] w fun e w'=>e=.returned (.tuple #[])∧Yc1 w D (.slice A0 F.vars.length c0) (.slice A1 F.params.length c1) (.slice A2 F.blocks.length c2) nb gi gb ga F.vars.length (YM F tb s) w':=by
 obtain⟨A0',c0',A1',c1',A2',c2',hfe,l0,l1,l2,-,-,-,r0,r1,r2⟩:=id hF.open_;simp only[Value.agg.injEq,Array.mk.injEq,List.cons.injEq,Value.slice.injEq,true_and,and_true]at hfe;obtain⟨⟨rfl,rfl⟩,⟨rfl,rfl⟩,rfl,rfl⟩:=hfe;unfold Len at *;obtain⟨bb,off,A3,c3,A4,c4,rfl,hbb,-,hy0,hy1,-,-,-,-,-,lp,-,kp,-,rp,-⟩:=r2.blk hW ht;unfold Len at lp;have htn:(tb:Int)<(F.blocks.length:Int):=by omega
 have hph:=(Yaw hSh ht).1;have hpl:=(hS.2.2 tb ht).1;have hvl:=hS.1;have xl:=h.box.lt;have k2:=h.box.cell 2;have k7:=h.box.cell 7;have k8:=h.box.cell 8;replace k2:w.cell? ⟨nb,2,none⟩=some (.slice (some ⟨bb,off,none⟩) F.blocks.length c2):=k2;replace k7:w.cell? ⟨nb,7,none⟩=some (.int .i64 (s.block:Int)):=k7;replace k8:w.cell? ⟨nb,8,none⟩=some (.int .i64 (s.pc:Int)):=k8;have f7:=h.box.frozen 7;have f8:=h.box.frozen 8;have HPH:=Lh hph;have H:=Lh h;have HI:=Lh hI;have HW:=Lh hW;have HD:=Lh hD;have HDW:=Lh hDW;obtain⟨b,hb⟩:∃b,b=F.blk tb:=⟨_,rfl⟩;have HB:=Lh hb;rw[← hb]at hy1 lp kp rp hph HPH hpl;have HRP:=Lh rp;clear h hF r0 r1 r2 hI hSh hS hDW hD hW hph hb hy0 kp rp;have hpp:∀k,k<b.phis.length→YI F (b.phi k)=true:=fun k hk=>HPH.out _ (List.mem_of_getElem? (PBlock.phi_get hk))
 have HPP:=Lh hpp;clear hpp;go_enter Tryz.func62,Tryz.ntmps62;go_wp2
 go_loopw[4,24] (fun s4 i wr=>∃(k:Nat) (Ag:Option Addr) (cg:Nat),s4=.slice Ag k cg∧i=.int .i64 (k:Int)∧k≤b.phis.length∧Below w.heap.size w wr∧wr.ownsRow w.heap.size 3 1 (.slice Ag k cg) k ((Yu (b.phis.take k) s.block).map (Value.int .i64))∧Hid ((Yu (b.phis.take k) s.block).any (fun g=>decide (g<0))=false)) (fun _ i _=>b.phis.length-(intOf i).toNat)
 case atStart=>exact⟨0,none,0,rfl,rfl,Nz _,BL,by simpa[Yu]using World.ownsRow_nil _ _ _ _,rfl⟩
 case round=>as_aux_lemma=>
  obtain⟨k,Ag,cg,rfl,rfl,hk,hb0,ho,hng⟩:=hrel
  by_cases hkl:k<b.phis.length
  · as_aux_lemma=>
    obtain⟨wq,rfl⟩:∃wq:World,wq=wr:=⟨_,rfl⟩;have hkI:(k:Int)<(b.phis.length:Int):=by omega
    have hph:=HPP.out k hkl;have HG:=Lh (Yn2 (x:=(s.block:Int)) hkl);have HMM:=Lh (show Yt (b.phi k).froms (b.phi k).args (s.block:Int)∈Yu b.phis (s.block:Int)from List.mem_map.2 ⟨_,List.mem_of_getElem? (PBlock.phi_get hkl),rfl⟩);obtain⟨bp,op,A5,c5,A6,c6,rfl,hbp,hp0,hp1,hp2,l5,l6,k5,k6,r5,r6⟩:=HRP.out.phi (HW.out.trans (hb0.mono HW.out.size)) hkl;unfold Len at *;generalize b.phi k=p at *;have hfl:p.args.length=p.froms.length∧1≤p.froms.length:=by
     unfold YI at hph;simp only[Bool.and_eq_true,decide_eq_true_eq]at hph;omega
    have y7:=(hb0.cell (p:=⟨nb,7,none⟩) xl).trans k7;have nbl:=Nt xl hb0.size;have HFL:=Lh hfl;have hb8:(p.froms.length:Int)-1=((p.froms.length-1:Nat):Int):=by omega
    clear hfl hb8;go_wp2
    go_loopw[7,8] (fun s7 i wx=>∃(j:Nat) (a:Int),s7=.int .i64 a∧i=.int .i64 ((j:Int)-1)∧j≤p.froms.length∧Hid (a=Yt (p.froms.drop j) (p.args.drop j) s.block)∧Below (wq.heap.size+1) (wq.alloc (.cells #[.int .i64 p.dst,.slice A5 p.args.length c5,.slice A6 p.froms.length c6] 64)) wx) (fun _ i _=>(intOf i+1).toNat)
    case atStart=>exact⟨p.froms.length,-1,rfl,ZN,Nr _,(Yn1 (Nr _)).symm,by simpa using Br _ _⟩
    case round=>as_aux_lemma=>
     obtain⟨j,a,rfl,rfl,hj,ha,hbx⟩:=hrel;obtain⟨z8,zx⟩:=YbE hbx;have z0:wr.cell? ⟨wq.heap.size,0,none⟩=some (.int .i64 p.dst):=zx 0;have z1:wr.cell? ⟨wq.heap.size,1,none⟩=some (.slice A5 p.args.length c5):=zx 1;have z2:wr.cell? ⟨wq.heap.size,2,none⟩=some (.slice A6 p.froms.length c6):=zx 2;have hBq:Below wq.heap.size wq wr:=((Br _ _).alloc (Nr _) _).trans (hbx.mono (Nat.le_succ _));have hBw:Below w.heap.size w wr:=hb0.trans (hBq.mono hb0.size);have hWr:=HW.out.trans (hBw.mono HW.out.size);have y7':=(hBq.cell (p:=⟨nb,7,none⟩) nbl).trans y7;have nbl':=Nt nbl hBq.size;clear zx
     by_cases hj0:j=0
     · as_aux_lemma=>
       subst hj0;rw[List.drop_zero,List.drop_zero]at ha
       by_cases ha0:a<0
       · as_aux_lemma=>
         have HX:=Lh (show YM F tb s=(s.goTo tb).endW 2 by
          unfold YM;rw[← HB.out];refine if_pos (List.any_eq_true.2 ⟨a,?_,decide_eq_true ha0⟩);rw[ha.out]
          exact HMM.out)
         have y8:=(hBw.cell (p:=⟨nb,8,none⟩) xl).trans k8;have g7:=(hBw.frozen (p:=⟨nb,7,none⟩) xl).trans f7;have g8:=(hBw.frozen (p:=⟨nb,8,none⟩) xl).trans f8;have HE:=Lh (fun m=>YbI ((((H.out.below hBw).below (bdrewN (Br wr.heap.size wr) m)).setBox (j:=7) (v:=.int .i64 (tb:Int)) (s':={ s with block:=tb }) rfl rfl rfl rfl rfl rfl).setBox (j:=8) (v:=.int .i64 0) (s':=s.goTo tb) rfl rfl rfl rfl rfl rfl) 2);have HK:=Lh (Kp.below (D:=D) hBw (fun k _ hk=>HD.out k hk));go_wp2_with(go_at_call 61;refine(HE.out 0).mono ?_;rintro e w9 ⟨rfl,hR9,hK9⟩);(first|go_end0|((try simp only[Exit.inBlock,Exit.then]);refine bodyPost_ret (results_none rfl _ _ _) rfl ?_));rw[HX.out];exact⟨rfl,_,_,_,hR9,Kp.trans (Kp.setCell (Kp.setCell ZP H.out.bs _) H.out.bs _) hK9⟩
       · as_aux_lemma=>
         have ha1:decide (a<0)=false:=decide_eq_false ha0;have hown:=fun m=>Yl (Yl ho hBq) (bdrewN (Br wr.heap.size wr) m)
         have hbs:w.heap.size≤wr.heap.size:=hBw.size;have ho':=hown;go_wp2_with(at_builtin;refine YcA _ rfl _ _ 23 rfl w.heap.size 3 8 Tryz.underlying23 Tryz.info3 rfl _ k _ rfl (hown 0) _ rfl (.int .i64 a) (by rfl) rfl ZO ZD hbs ?_;intro v3 w3 ho3 hg3 hf3;obtain⟨A3',c3',rfl⟩:=Yh ho3);have hbg:=((Br wr.heap.size wr).alloc (Nr _) (.cells #[.int .i64 a] 3));have HO3:=Lh ho3;have HGT:=Lh (show(Yu (b.phis.take (k+1)) s.block).map (Value.int .i64)=(Yu (b.phis.take k) s.block).map (Value.int .i64)++[.int .i64 a] by rw[HG.out,List.map_append,← ha.out];rfl);have HN1:=Lh (show(Yu (b.phis.take (k+1)) s.block).any (fun g=>decide (g<0))=false by rw[HG.out,List.any_append,hng.out,← ha.out];simp[ha0]);have hB3:Below w.heap.size w w3:=Ybj (ho' 0) hg3 hBw (Nr _) hbs;go_roundw
         case rel=>exact⟨k+1,_,_,rfl,ZN,ZO,hB3,by rw[HGT.out];exact HO3.out,HN1.out⟩
         case measure=>simp[intOf];omega
     · as_aux_lemma=>
       obtain⟨m,rfl⟩:∃m,j=m+1:=⟨j-1,ZO⟩;rw[show((m+1:Nat):Int)-1=(m:Int)from ZO];have hma:m<p.args.length:=by have:=HFL.out.1;omega
       have hm0:(0:Int)≤(m:Int):=by omega
       have hmf:(m:Int)<(p.froms.length:Int):=by omega
       have hmaI:(m:Int)<(p.args.length:Int):=by omega
       obtain⟨b6,o6,hA6,hb6,q6⟩:=r6.int hWr (i:=m) ZO;obtain⟨b5,o5,hA5,hb5,q5⟩:=r5.int hWr hma;have HAT:=Lh (Yn0 (b:=(s.block:Int)) (fs:=p.froms) (l:=p.args) (j:=m) ZO HFL.out.1.symm);rw[hA6]at z2;rw[hA5]at z1;clear hA5 hA6;generalize ith p.froms m=f at *;generalize ith p.args m=g at *
       by_cases hfb:f=(s.block:Int)
       · as_aux_lemma=>
         subst hfb;have HA2:=Lh (HAT.out.trans (if_pos rfl));go_wp2
         go_quiet (fail)
         go_wp2;go_roundw
         case rel=>exact⟨m,_,rfl,ZN,ZO,HA2.out.symm,by(focus repeat(first|assumption|refine bdrewN ?_ _|refine Below.drew ?_))⟩
         case measure=>simp[intOf]
       · as_aux_lemma=>
         have HA2:=Lh (HAT.out.trans (if_neg hfb));have hfe:(f==(s.block:Int))=false:=by rw[beq_eq_false_iff_ne];exact hfb
         go_wp2
         go_quiet (fail)
         go_wp2;go_roundw
         case rel=>exact⟨m,_,rfl,ZN,ZO,ha.out.trans HA2.out.symm,by(focus repeat(first|assumption|refine bdrewN ?_ _|refine Below.drew ?_))⟩
         case measure=>simp[intOf]
  · as_aux_lemma=>
    obtain rfl:k=b.phis.length:=by omega
    rw[List.take_length]at ho hng;have HNG:=Lh hng.out;have hWr:=HW.out.trans (hb0.mono HW.out.size);have hR:=Lh (H.out.below hb0);have nbl:=Nt xl hb0.size;have x3:=hR.out.box.cell 3;have x4:=hR.out.box.cell 4;have x5:=hR.out.box.cell 5;replace x3:wr.cell? ⟨nb,3,none⟩=some (.slice (some ⟨gi,0,none⟩) F.vars.length F.vars.length):=x3;replace x4:wr.cell? ⟨nb,4,none⟩=some (.slice (some ⟨gb,0,none⟩) F.vars.length F.vars.length):=x4;replace x5:wr.cell? ⟨nb,5,none⟩=some (.slice (some ⟨ga,0,none⟩) F.vars.length F.vars.length):=x5;have HO:=Lh ho;have HB0:=Lh hb0;have HWR:=Lh hWr;have HY:=Lh (show _∧_∧_∧_ from⟨k2,hy1,xl,hbb⟩);clear ho hb0 hWr k2 k7 k8 f7 f8 hy1 xl hbb;go_wp2;refine YiT [67,68,69,70,71,72,73,74,75,76,77,78,79,80,81,82,83,84,9,10,11] (fun i w' v'=>(([fun _ v'=>∃a,v'=.slice (some a) 0 0,fun _ v'=>v'=.pointer (some ⟨nb,0,none⟩),fun _ v'=>v'=.pointer (some ⟨nb,0,none⟩),fun _ v'=>v'=.pointer (some ⟨nb,3,none⟩),fun _ v'=>v'=.slice (some ⟨gi,0,none⟩) F.vars.length F.vars.length,fun w' v'=>CellsAt w' wr.heap.size v' F.vars.length (s.ints.map (Value.int .i64)),fun _ v'=>∃a,v'=.slice (some a) 0 0,fun _ v'=>v'=.pointer (some ⟨nb,0,none⟩),fun _ v'=>v'=.pointer (some ⟨nb,0,none⟩),fun _ v'=>v'=.pointer (some ⟨nb,4,none⟩),fun _ v'=>v'=.slice (some ⟨gb,0,none⟩) F.vars.length F.vars.length,fun w' v'=>CellsAt w' wr.heap.size v' F.vars.length (s.bools.map Value.bool),fun _ v'=>∃a,v'=.slice (some a) 0 0,fun _ v'=>v'=.pointer (some ⟨nb,0,none⟩),fun _ v'=>v'=.pointer (some ⟨nb,0,none⟩),fun _ v'=>v'=.pointer (some ⟨nb,5,none⟩),fun _ v'=>v'=.slice (some ⟨ga,0,none⟩) F.vars.length F.vars.length,fun w' v'=>CellsAt w' wr.heap.size v' F.vars.length (s.arrs.map (Value.int .i64)),fun w' v'=>CellsAt w' wr.heap.size v' F.vars.length (s.ints.map (Value.int .i64)),fun w' v'=>CellsAt w' wr.heap.size v' F.vars.length (s.bools.map Value.bool),fun w' v'=>CellsAt w' wr.heap.size v' F.vars.length (s.arrs.map (Value.int .i64))]:List (World→Value→Prop)).getD i (fun _ _=>True)) w' v') ZK ZK ZK ZD ?mono ?step ?fin
    case mono=>
     intro i w1 w2 v hi hb h
     match i,hi,h with
     |0,_,h=>exact h
     |1,_,h=>exact h
     |2,_,h=>exact h
     |3,_,h=>exact h
     |4,_,h=>exact h
     |5,_,h=>exact CellsAt.below h hb
     |6,_,h=>exact h
     |7,_,h=>exact h
     |8,_,h=>exact h
     |9,_,h=>exact h
     |10,_,h=>exact h
     |11,_,h=>exact CellsAt.below h hb
     |12,_,h=>exact h
     |13,_,h=>exact h
     |14,_,h=>exact h
     |15,_,h=>exact h
     |16,_,h=>exact h
     |17,_,h=>exact CellsAt.below h hb
     |18,_,h=>exact CellsAt.below h hb
     |19,_,h=>exact CellsAt.below h hb
     |20,_,h=>exact CellsAt.below h hb
     |k+21,hi,_=>exact absurd hi (Nat.not_lt_of_le (Nat.le_add_left _ _))
    case step=>
     intro i o vs w1 ho hl hb hp K hK;have hl0:vs.length=21:=hl;clear hl;obtain⟨v0,r0,rfl,hl1⟩:=Ye (n:=20) hl0;obtain⟨v1,r1,rfl,hl2⟩:=Ye (n:=19) hl1;obtain⟨v2,r2,rfl,hl3⟩:=Ye (n:=18) hl2;obtain⟨v3,r3,rfl,hl4⟩:=Ye (n:=17) hl3;obtain⟨v4,r4,rfl,hl5⟩:=Ye (n:=16) hl4;obtain⟨v5,r5,rfl,hl6⟩:=Ye (n:=15) hl5;obtain⟨v6,r6,rfl,hl7⟩:=Ye (n:=14) hl6;obtain⟨v7,r7,rfl,hl8⟩:=Ye (n:=13) hl7;obtain⟨v8,r8,rfl,hl9⟩:=Ye (n:=12) hl8;obtain⟨v9,r9,rfl,hl10⟩:=Ye (n:=11) hl9;obtain⟨v10,r10,rfl,hl11⟩:=Ye (n:=10) hl10;obtain⟨v11,r11,rfl,hl12⟩:=Ye (n:=9) hl11;obtain⟨v12,r12,rfl,hl13⟩:=Ye (n:=8) hl12;obtain⟨v13,r13,rfl,hl14⟩:=Ye (n:=7) hl13;obtain⟨v14,r14,rfl,hl15⟩:=Ye (n:=6) hl14;obtain⟨v15,r15,rfl,hl16⟩:=Ye (n:=5) hl15;obtain⟨v16,r16,rfl,hl17⟩:=Ye (n:=4) hl16;obtain⟨v17,r17,rfl,hl18⟩:=Ye (n:=3) hl17;obtain⟨v18,r18,rfl,hl19⟩:=Ye (n:=2) hl18;obtain⟨v19,r19,rfl,hl20⟩:=Ye (n:=1) hl19;obtain⟨v20,r20,rfl,hl21⟩:=Ye (n:=0) hl20;obtain rfl:=List.eq_nil_of_length_eq_zero hl21;clear hl0 hl1 hl2 hl3 hl4 hl5 hl6 hl7 hl8 hl9 hl10 hl11 hl12 hl13 hl14 hl15 hl16 hl17 hl18 hl19 hl20 hl21
     match i,ho,hp with
     |0,ho,hp=>
      obtain rfl:=Option.some.inj ho;clear hp;simp only[Yc,Act.put,La,Lz,Lc];go_simp;refine hK.out (.slice (some ⟨w1.heap.size,0,none⟩) 0 0) _ _ ?_ ((Br _ _).alloc (Nr _) _) (⟨_,rfl⟩);simp only[Yc,Act.put,La,Lz,Lc]
     |1,ho,hp=>
      obtain rfl:=Option.some.inj ho;clear hp;simp only[Yc,Act.put,La,Lz,Lc];go_simp
      try go_wp2
      refine hK.out (.pointer (some ⟨nb,0,none⟩)) _ _ ?_ ZE rfl;simp only[Yc,Act.put,La,Lz,Lc]
     |2,ho,hp=>
      obtain rfl:=Option.some.inj ho;have q1:v1=.pointer (some ⟨nb,0,none⟩):=hp 1 ZK;obtain rfl:=q1;clear hp;simp only[Yc,Act.put,La,Lz,Lc];go_simp
      try go_wp2
      refine hK.out (.pointer (some ⟨nb,0,none⟩)) _ _ ?_ ZE rfl;simp only[Yc,Act.put,La,Lz,Lc]
     |3,ho,hp=>
      obtain rfl:=Option.some.inj ho;have q2:v2=.pointer (some ⟨nb,0,none⟩):=hp 2 ZK;obtain rfl:=q2;clear hp;simp only[Yc,Act.put,La,Lz,Lc];go_simp
      try go_wp2
      refine hK.out (.pointer (some ⟨nb,3,none⟩)) _ _ ?_ ZE rfl;simp only[Yc,Act.put,La,Lz,Lc]
     |4,ho,hp=>
      obtain rfl:=Option.some.inj ho;have q3:v3=.pointer (some ⟨nb,3,none⟩):=hp 3 ZK;obtain rfl:=q3;clear hp;simp only[Yc,Act.put,La,Lz,Lc];have z9:=(hb.cell (p:=⟨nb,3,none⟩) nbl).trans x3;have zl:=Nt nbl hb.size;go_simp
      try go_wp2
      refine hK.out (.slice (some ⟨gi,0,none⟩) F.vars.length F.vars.length) _ _ ?_ ZE rfl;simp only[Yc,Act.put,La,Lz,Lc]
     |5,ho,hp=>
      obtain rfl:=Option.some.inj ho;have q0:∃a,v0=.slice (some a) 0 0:=hp 0 ZK;have q4:v4=.slice (some ⟨gi,0,none⟩) F.vars.length F.vars.length:=hp 4 ZK;obtain⟨a0,rfl⟩:=q0;obtain rfl:=q4;clear hp;simp only[Yc,Act.put,La,Lz,Lc];obtain⟨v9,w9,hr9,hc9,hb9⟩:=YgH (P:=Tryz.prog) w1 hb.size (t:=44) (ty:=44) Tryz.underlying44 Tryz.infoI64 ZD a0 gi F.vars.length F.vars.length (s.ints.map (Value.int .i64)) (by simpa using hR.out.ints.1) (YgG (Yl hR.out.ints hb)) ZO;refine YbN _ _ _ rfl rfl rfl hr9 ?_;refine hK.out (v9) _ _ ?_ (hb9) (hc9);simp only[Yc,Act.put,La,Lz,Lc]
     |6,ho,hp=>
      obtain rfl:=Option.some.inj ho;clear hp;simp only[Yc,Act.put,La,Lz,Lc];go_simp;refine hK.out (.slice (some ⟨w1.heap.size,0,none⟩) 0 0) _ _ ?_ ((Br _ _).alloc (Nr _) _) (⟨_,rfl⟩);simp only[Yc,Act.put,La,Lz,Lc]
     |7,ho,hp=>
      obtain rfl:=Option.some.inj ho;clear hp;simp only[Yc,Act.put,La,Lz,Lc];go_simp
      try go_wp2
      refine hK.out (.pointer (some ⟨nb,0,none⟩)) _ _ ?_ ZE rfl;simp only[Yc,Act.put,La,Lz,Lc]
     |8,ho,hp=>
      obtain rfl:=Option.some.inj ho;have q7:v7=.pointer (some ⟨nb,0,none⟩):=hp 7 ZK;obtain rfl:=q7;clear hp;simp only[Yc,Act.put,La,Lz,Lc];go_simp
      try go_wp2
      refine hK.out (.pointer (some ⟨nb,0,none⟩)) _ _ ?_ ZE rfl;simp only[Yc,Act.put,La,Lz,Lc]
     |9,ho,hp=>
      obtain rfl:=Option.some.inj ho;have q8:v8=.pointer (some ⟨nb,0,none⟩):=hp 8 ZK;obtain rfl:=q8;clear hp;simp only[Yc,Act.put,La,Lz,Lc];go_simp
      try go_wp2
      refine hK.out (.pointer (some ⟨nb,4,none⟩)) _ _ ?_ ZE rfl;simp only[Yc,Act.put,La,Lz,Lc]
     |10,ho,hp=>
      obtain rfl:=Option.some.inj ho;have q9:v9=.pointer (some ⟨nb,4,none⟩):=hp 9 ZK;obtain rfl:=q9;clear hp;simp only[Yc,Act.put,La,Lz,Lc];have z9:=(hb.cell (p:=⟨nb,4,none⟩) nbl).trans x4;have zl:=Nt nbl hb.size;go_simp
      try go_wp2
      refine hK.out (.slice (some ⟨gb,0,none⟩) F.vars.length F.vars.length) _ _ ?_ ZE rfl;simp only[Yc,Act.put,La,Lz,Lc]
     |11,ho,hp=>
      obtain rfl:=Option.some.inj ho;have q5:CellsAt w1 wr.heap.size v5 F.vars.length (s.ints.map (Value.int .i64)):=hp 5 ZK;have q6:∃a,v6=.slice (some a) 0 0:=hp 6 ZK;have q10:v10=.slice (some ⟨gb,0,none⟩) F.vars.length F.vars.length:=hp 10 ZK;have c5:=q5;obtain⟨a6,rfl⟩:=q6;obtain rfl:=q10;clear hp;simp only[Yc,Act.put,La,Lz,Lc];obtain⟨v9,w9,hr9,hc9,hb9⟩:=YgH (P:=Tryz.prog) w1 hb.size (t:=72) (ty:=72) Tryz.underlying72 Tryz.info4 ZD a6 gb F.vars.length F.vars.length (s.bools.map Value.bool) (by simpa using hR.out.bools.1) (YgG (Yl hR.out.bools hb)) ZO;refine YbN _ _ _ rfl rfl rfl hr9 ?_;refine hK.out (v9) _ _ ?_ (hb9) (hc9);simp only[Yc,Act.put,La,Lz,Lc]
     |12,ho,hp=>
      obtain rfl:=Option.some.inj ho;clear hp;simp only[Yc,Act.put,La,Lz,Lc];go_simp;refine hK.out (.slice (some ⟨w1.heap.size,0,none⟩) 0 0) _ _ ?_ ((Br _ _).alloc (Nr _) _) (⟨_,rfl⟩);simp only[Yc,Act.put,La,Lz,Lc]
     |13,ho,hp=>
      obtain rfl:=Option.some.inj ho;clear hp;simp only[Yc,Act.put,La,Lz,Lc];go_simp
      try go_wp2
      refine hK.out (.pointer (some ⟨nb,0,none⟩)) _ _ ?_ ZE rfl;simp only[Yc,Act.put,La,Lz,Lc]
     |14,ho,hp=>
      obtain rfl:=Option.some.inj ho;have q13:v13=.pointer (some ⟨nb,0,none⟩):=hp 13 ZK;obtain rfl:=q13;clear hp;simp only[Yc,Act.put,La,Lz,Lc];go_simp
      try go_wp2
      refine hK.out (.pointer (some ⟨nb,0,none⟩)) _ _ ?_ ZE rfl;simp only[Yc,Act.put,La,Lz,Lc]
     |15,ho,hp=>
      obtain rfl:=Option.some.inj ho;have q14:v14=.pointer (some ⟨nb,0,none⟩):=hp 14 ZK;obtain rfl:=q14;clear hp;simp only[Yc,Act.put,La,Lz,Lc];go_simp
      try go_wp2
      refine hK.out (.pointer (some ⟨nb,5,none⟩)) _ _ ?_ ZE rfl;simp only[Yc,Act.put,La,Lz,Lc]
     |16,ho,hp=>
      obtain rfl:=Option.some.inj ho;have q15:v15=.pointer (some ⟨nb,5,none⟩):=hp 15 ZK;obtain rfl:=q15;clear hp;simp only[Yc,Act.put,La,Lz,Lc];have z9:=(hb.cell (p:=⟨nb,5,none⟩) nbl).trans x5;have zl:=Nt nbl hb.size;go_simp
      try go_wp2
      refine hK.out (.slice (some ⟨ga,0,none⟩) F.vars.length F.vars.length) _ _ ?_ ZE rfl;simp only[Yc,Act.put,La,Lz,Lc]
     |17,ho,hp=>
      obtain rfl:=Option.some.inj ho;have q11:CellsAt w1 wr.heap.size v11 F.vars.length (s.bools.map Value.bool):=hp 11 ZK;have q12:∃a,v12=.slice (some a) 0 0:=hp 12 ZK;have q16:v16=.slice (some ⟨ga,0,none⟩) F.vars.length F.vars.length:=hp 16 ZK;have c11:=q11;obtain⟨a12,rfl⟩:=q12;obtain rfl:=q16;clear hp;simp only[Yc,Act.put,La,Lz,Lc];obtain⟨v9,w9,hr9,hc9,hb9⟩:=YgH (P:=Tryz.prog) w1 hb.size (t:=23) (ty:=23) Tryz.underlying23 Tryz.info3 ZD a12 ga F.vars.length F.vars.length (s.arrs.map (Value.int .i64)) (by simpa using hR.out.arrs.1) (YgG (Yl hR.out.arrs hb)) ZO;refine YbN _ _ _ rfl rfl rfl hr9 ?_;refine hK.out (v9) _ _ ?_ (hb9) (hc9);simp only[Yc,Act.put,La,Lz,Lc]
     |18,ho,hp=>
      obtain rfl:=Option.some.inj ho;have q0:∃a,v0=.slice (some a) 0 0:=hp 0 ZK;have q1:v1=.pointer (some ⟨nb,0,none⟩):=hp 1 ZK;have q2:v2=.pointer (some ⟨nb,0,none⟩):=hp 2 ZK;have q3:v3=.pointer (some ⟨nb,3,none⟩):=hp 3 ZK;have q4:v4=.slice (some ⟨gi,0,none⟩) F.vars.length F.vars.length:=hp 4 ZK;have q5:CellsAt w1 wr.heap.size v5 F.vars.length (s.ints.map (Value.int .i64)):=hp 5 ZK;have q17:CellsAt w1 wr.heap.size v17 F.vars.length (s.arrs.map (Value.int .i64)):=hp 17 ZK;obtain⟨a0,rfl⟩:=q0;obtain rfl:=q1;obtain rfl:=q2;obtain rfl:=q3;obtain rfl:=q4;have c5:=q5;have c17:=q17;clear hp;simp only[Yc,Act.put,La,Lz,Lc];go_simp;refine hK.out (v5) _ _ ?_ (Br _ _) (c5);simp only[Yc,Act.put,La,Lz,Lc]
     |19,ho,hp=>
      obtain rfl:=Option.some.inj ho;have q0:∃a,v0=.slice (some a) 0 0:=hp 0 ZK;have q1:v1=.pointer (some ⟨nb,0,none⟩):=hp 1 ZK;have q2:v2=.pointer (some ⟨nb,0,none⟩):=hp 2 ZK;have q3:v3=.pointer (some ⟨nb,3,none⟩):=hp 3 ZK;have q4:v4=.slice (some ⟨gi,0,none⟩) F.vars.length F.vars.length:=hp 4 ZK;have q5:CellsAt w1 wr.heap.size v5 F.vars.length (s.ints.map (Value.int .i64)):=hp 5 ZK;have q6:∃a,v6=.slice (some a) 0 0:=hp 6 ZK;have q7:v7=.pointer (some ⟨nb,0,none⟩):=hp 7 ZK;have q8:v8=.pointer (some ⟨nb,0,none⟩):=hp 8 ZK;have q9:v9=.pointer (some ⟨nb,4,none⟩):=hp 9 ZK;have q10:v10=.slice (some ⟨gb,0,none⟩) F.vars.length F.vars.length:=hp 10 ZK;have q11:CellsAt w1 wr.heap.size v11 F.vars.length (s.bools.map Value.bool):=hp 11 ZK;have q18:CellsAt w1 wr.heap.size v18 F.vars.length (s.ints.map (Value.int .i64)):=hp 18 ZK;obtain⟨a0,rfl⟩:=q0;obtain rfl:=q1;obtain rfl:=q2;obtain rfl:=q3;obtain rfl:=q4;have c5:=q5;obtain⟨a6,rfl⟩:=q6;obtain rfl:=q7;obtain rfl:=q8;obtain rfl:=q9;obtain rfl:=q10;have c11:=q11;have c18:=q18;clear hp;simp only[Yc,Act.put,La,Lz,Lc];go_simp;refine hK.out (v11) _ _ ?_ (Br _ _) (c11);simp only[Yc,Act.put,La,Lz,Lc]
     |20,ho,hp=>
      obtain rfl:=Option.some.inj ho;have q0:∃a,v0=.slice (some a) 0 0:=hp 0 ZK;have q1:v1=.pointer (some ⟨nb,0,none⟩):=hp 1 ZK;have q2:v2=.pointer (some ⟨nb,0,none⟩):=hp 2 ZK;have q3:v3=.pointer (some ⟨nb,3,none⟩):=hp 3 ZK;have q4:v4=.slice (some ⟨gi,0,none⟩) F.vars.length F.vars.length:=hp 4 ZK;have q5:CellsAt w1 wr.heap.size v5 F.vars.length (s.ints.map (Value.int .i64)):=hp 5 ZK;have q6:∃a,v6=.slice (some a) 0 0:=hp 6 ZK;have q7:v7=.pointer (some ⟨nb,0,none⟩):=hp 7 ZK;have q8:v8=.pointer (some ⟨nb,0,none⟩):=hp 8 ZK;have q9:v9=.pointer (some ⟨nb,4,none⟩):=hp 9 ZK;have q10:v10=.slice (some ⟨gb,0,none⟩) F.vars.length F.vars.length:=hp 10 ZK;have q11:CellsAt w1 wr.heap.size v11 F.vars.length (s.bools.map Value.bool):=hp 11 ZK;have q12:∃a,v12=.slice (some a) 0 0:=hp 12 ZK;have q13:v13=.pointer (some ⟨nb,0,none⟩):=hp 13 ZK;have q14:v14=.pointer (some ⟨nb,0,none⟩):=hp 14 ZK;have q15:v15=.pointer (some ⟨nb,5,none⟩):=hp 15 ZK;have q16:v16=.slice (some ⟨ga,0,none⟩) F.vars.length F.vars.length:=hp 16 ZK;have q17:CellsAt w1 wr.heap.size v17 F.vars.length (s.arrs.map (Value.int .i64)):=hp 17 ZK;have q18:CellsAt w1 wr.heap.size v18 F.vars.length (s.ints.map (Value.int .i64)):=hp 18 ZK;have q19:CellsAt w1 wr.heap.size v19 F.vars.length (s.bools.map Value.bool):=hp 19 ZK;obtain⟨a0,rfl⟩:=q0;obtain rfl:=q1;obtain rfl:=q2;obtain rfl:=q3;obtain rfl:=q4;have c5:=q5;obtain⟨a6,rfl⟩:=q6;obtain rfl:=q7;obtain rfl:=q8;obtain rfl:=q9;obtain rfl:=q10;have c11:=q11;obtain⟨a12,rfl⟩:=q12;obtain rfl:=q13;obtain rfl:=q14;obtain rfl:=q15;obtain rfl:=q16;have c17:=q17;have c18:=q18;have c19:=q19;clear hp;simp only[Yc,Act.put,La,Lz,Lc];go_simp;refine hK.out (v17) _ _ ?_ (Br _ _) (c17);simp only[Yc,Act.put,La,Lz,Lc]
     |k+21,ho,_=>cases ho
    case fin=>
     intro vs w1 hl hb1 hp;have hl0:vs.length=21:=hl;clear hl;obtain⟨v0,r0,rfl,hl1⟩:=Ye (n:=20) hl0;obtain⟨v1,r1,rfl,hl2⟩:=Ye (n:=19) hl1;obtain⟨v2,r2,rfl,hl3⟩:=Ye (n:=18) hl2;obtain⟨v3,r3,rfl,hl4⟩:=Ye (n:=17) hl3;obtain⟨v4,r4,rfl,hl5⟩:=Ye (n:=16) hl4;obtain⟨v5,r5,rfl,hl6⟩:=Ye (n:=15) hl5;obtain⟨v6,r6,rfl,hl7⟩:=Ye (n:=14) hl6;obtain⟨v7,r7,rfl,hl8⟩:=Ye (n:=13) hl7;obtain⟨v8,r8,rfl,hl9⟩:=Ye (n:=12) hl8;obtain⟨v9,r9,rfl,hl10⟩:=Ye (n:=11) hl9;obtain⟨v10,r10,rfl,hl11⟩:=Ye (n:=10) hl10;obtain⟨v11,r11,rfl,hl12⟩:=Ye (n:=9) hl11;obtain⟨v12,r12,rfl,hl13⟩:=Ye (n:=8) hl12;obtain⟨v13,r13,rfl,hl14⟩:=Ye (n:=7) hl13;obtain⟨v14,r14,rfl,hl15⟩:=Ye (n:=6) hl14;obtain⟨v15,r15,rfl,hl16⟩:=Ye (n:=5) hl15;obtain⟨v16,r16,rfl,hl17⟩:=Ye (n:=4) hl16;obtain⟨v17,r17,rfl,hl18⟩:=Ye (n:=3) hl17;obtain⟨v18,r18,rfl,hl19⟩:=Ye (n:=2) hl18;obtain⟨v19,r19,rfl,hl20⟩:=Ye (n:=1) hl19;obtain⟨v20,r20,rfl,hl21⟩:=Ye (n:=0) hl20;obtain rfl:=List.eq_nil_of_length_eq_zero hl21;clear hl0 hl1 hl2 hl3 hl4 hl5 hl6 hl7 hl8 hl9 hl10 hl11 hl12 hl13 hl14 hl15 hl16 hl17 hl18 hl19 hl20 hl21;have q0:∃a,v0=.slice (some a) 0 0:=hp 0 (of_decide_eq_true ZK);have q1:v1=.pointer (some ⟨nb,0,none⟩):=hp 1 (of_decide_eq_true ZK);have q2:v2=.pointer (some ⟨nb,0,none⟩):=hp 2 (of_decide_eq_true ZK);have q3:v3=.pointer (some ⟨nb,3,none⟩):=hp 3 (of_decide_eq_true ZK);have q4:v4=.slice (some ⟨gi,0,none⟩) F.vars.length F.vars.length:=hp 4 (of_decide_eq_true ZK);have q5:CellsAt w1 wr.heap.size v5 F.vars.length (s.ints.map (Value.int .i64)):=hp 5 (of_decide_eq_true ZK);have q6:∃a,v6=.slice (some a) 0 0:=hp 6 (of_decide_eq_true ZK);have q7:v7=.pointer (some ⟨nb,0,none⟩):=hp 7 (of_decide_eq_true ZK);have q8:v8=.pointer (some ⟨nb,0,none⟩):=hp 8 (of_decide_eq_true ZK);have q9:v9=.pointer (some ⟨nb,4,none⟩):=hp 9 (of_decide_eq_true ZK);have q10:v10=.slice (some ⟨gb,0,none⟩) F.vars.length F.vars.length:=hp 10 (of_decide_eq_true ZK);have q11:CellsAt w1 wr.heap.size v11 F.vars.length (s.bools.map Value.bool):=hp 11 (of_decide_eq_true ZK);have q12:∃a,v12=.slice (some a) 0 0:=hp 12 (of_decide_eq_true ZK);have q13:v13=.pointer (some ⟨nb,0,none⟩):=hp 13 (of_decide_eq_true ZK);have q14:v14=.pointer (some ⟨nb,0,none⟩):=hp 14 (of_decide_eq_true ZK);have q15:v15=.pointer (some ⟨nb,5,none⟩):=hp 15 (of_decide_eq_true ZK);have q16:v16=.slice (some ⟨ga,0,none⟩) F.vars.length F.vars.length:=hp 16 (of_decide_eq_true ZK);have q17:CellsAt w1 wr.heap.size v17 F.vars.length (s.arrs.map (Value.int .i64)):=hp 17 (of_decide_eq_true ZK);have q18:CellsAt w1 wr.heap.size v18 F.vars.length (s.ints.map (Value.int .i64)):=hp 18 (of_decide_eq_true ZK);have q19:CellsAt w1 wr.heap.size v19 F.vars.length (s.bools.map Value.bool):=hp 19 (of_decide_eq_true ZK);have q20:CellsAt w1 wr.heap.size v20 F.vars.length (s.arrs.map (Value.int .i64)):=hp 20 (of_decide_eq_true ZK);obtain⟨a0,rfl⟩:=q0;obtain rfl:=q1;obtain rfl:=q2;obtain rfl:=q3;obtain rfl:=q4;have c5:=q5;obtain⟨a6,rfl⟩:=q6;obtain rfl:=q7;obtain rfl:=q8;obtain rfl:=q9;obtain rfl:=q10;have c11:=q11;obtain⟨a12,rfl⟩:=q12;obtain rfl:=q13;obtain rfl:=q14;obtain rfl:=q15;obtain rfl:=q16;have c17:=q17;have c18:=q18;have c19:=q19;have c20:=q20;clear hp;simp only[Yc,Act.put,La,Lz,Lc];obtain⟨P9,e9,rfl,k9,y9⟩:=c18;obtain⟨P10,e10,rfl,k10,y10⟩:=c19;obtain⟨P11,e11,rfl,k11,y11⟩:=c20;obtain⟨wp,rfl⟩:∃wp:World,wp=wr:=⟨_,rfl⟩;have hB1:Below w.heap.size w w1:=HB0.out.trans (hb1.mono HB0.out.size);have hR1:=hR.out.below hb1;have hW1:=HW.out.trans (hB1.mono HW.out.size);obtain⟨k2,hy1,xl,hbb⟩:=HY.out;have j2:=(hB1.cell (p:=⟨nb,2,none⟩) xl).trans k2;have jl:=Nt xl hB1.size;have jb:=Nt hbb hB1.size;have jy:=(hB1.cell (p:=⟨bb,off+tb*7+1,none⟩) hbb).trans hy1;have HR1:=Lh hR1;have HB1:=Lh hB1;have HW1:=Lh hW1;have Hb1:=Lh hb1;have HY9:=Lh y9;have HY10:=Lh y10;have HY11:=Lh y11;clear c5 c11 c17 y9 y10 y11 hb1 hB1 hR1 hW1 k2 hy1 xl hbb x3 x4 x5 nbl;go_wp2
     go_loopw[95] (fun x wx=>∃k:Nat,x=.int .i64 k∧k≤b.phis.length∧RunO wx D (.slice A0 F.vars.length c0) (.slice A1 F.params.length c1) (.slice (some ⟨bb,off,none⟩) F.blocks.length c2) nb gi gb ga F.vars.length vr vt vrs (YQ s (b.phis.take k) ((Yu b.phis (s.block:Int)).take k) s)∧Kp (fun k=>k≠gi∧k≠gb∧k≠ga) w1 wx) (fun x _=>b.phis.length-(intOf x).toNat)
     case atStart=>exact⟨0,rfl,Nz _,HR1.out,Kp.refl⟩
     case round=>as_aux_lemma=>
      clear j2 jl jb jy;obtain⟨k,rfl,hk,h4,k4⟩:=hrel;have gi0:W.heap.size≤gi:=Nat.le_of_not_lt fun e=>H.out.di (HDW.out gi e)
      have gb0:W.heap.size≤gb:=Nat.le_of_not_lt fun e=>H.out.db (HDW.out gb e)
      have ga0:W.heap.size≤ga:=Nat.le_of_not_lt fun e=>H.out.da (HDW.out ga e)
      have hWx:=HW1.out.trans (Kp.to_below (B:=W.heap.size) k4 (fun k hk=>⟨ZO,ZO,ZO⟩) HW1.out.size)
      by_cases hkl:k<b.phis.length
      · as_aux_lemma=>
        have hkI:(k:Int)<(b.phis.length:Int):=by omega
        have hph:=HPP.out k hkl;obtain⟨j,hj,hjn⟩:=Yn4 hkl hph HNG.out;obtain⟨gg,cgg,hAg,hggl,hcgg⟩:=Ydr HO.out ZO;cases hAg;have gl:=(H.out.ints.lt gi rfl).2;have gbl:=(H.out.bools.lt gb rfl).2;have gal:=(H.out.arrs.lt ga rfl).2;have hgg0:w.heap.size≤gg:=(HO.out.lt gg rfl).1;have hbs:=HB0.out.size;have cg0:wp.cell? ⟨gg,k,none⟩=some (.int .i64 (j:Int)):=by
         rw[HO.out.cellAt k ZO,List.getElem?_map,Yaa (by rw[Yek];exact hkl),hj];rfl
        have cg1:=(k4.cell (b:=gg) (o:=k) ⟨ZO,ZO,ZO⟩ (Nt hggl Hb1.out.size)).trans ((Hb1.out.cell (p:=⟨gg,k,none⟩) hggl).trans cg0);have cgl:=Nt hggl (Nat.le_trans Hb1.out.size k4.size);obtain⟨g9,rfl,h9b,h9l,h9c⟩:=HY9.out j (.int .i64 (ith s.ints j)) (by rw[List.getElem?_map,Yaa (by rw[H.out.lens.1];exact hjn)];rfl);obtain⟨g10,rfl,h10b,h10l,h10c⟩:=HY10.out j (.bool (s.bools.getD j false)) (by rw[List.getElem?_map,List.getElem?_eq_getElem (by rw[H.out.lens.2.1];exact hjn)];simp[List.getD_eq_getElem?_getD,H.out.lens.2.1,hjn]);obtain⟨g11,rfl,h11b,h11l,h11c⟩:=HY11.out j (.int .i64 (ith s.arrs j)) (by rw[List.getElem?_map,Yaa (by rw[H.out.lens.2.2.1];exact hjn)];rfl);have z9:=(k4.cell (b:=g9) (o:=j) ⟨ZO,ZO,ZO⟩ h9l).trans h9c;have z10:=(k4.cell (b:=g10) (o:=j) ⟨ZO,ZO,ZO⟩ h10l).trans h10c;have z11:=(k4.cell (b:=g11) (o:=j) ⟨ZO,ZO,ZO⟩ h11l).trans h11c;have l9:=Nt h9l k4.size;have l10:=Nt h10l k4.size;have l11:=Nt h11l k4.size;have hjI:(j:Int)<(F.vars.length:Int):=by omega
        obtain⟨bp,op,A5,c5,A6,c6,rfl,hbp,hp0,hp1,hp2,-⟩:=HRP.out.phi hWx hkl;obtain⟨d,hd,hdn⟩:∃d:Nat,(b.phi k).dst=d∧d<F.vars.length:=by
         unfold YI at hph;simp only[Bool.and_eq_true]at hph;have:=Y2 hph.1.1.2;exact⟨(b.phi k).dst.toNat,ZO,ZO⟩
        have hdI:(d:Int)<(F.vars.length:Int):=by omega
        have HMV:=Lh (show YQ s (b.phis.take (k+1)) ((Yu b.phis (s.block:Int)).take (k+1)) s=(((YQ s (b.phis.take k) ((Yu b.phis (s.block:Int)).take k) s).setI (d:Int) (ith s.ints j)).setB (d:Int) (s.bools.getD j false)).setA (d:Int) (ith s.arrs j) by
         rw[List.take_add_one,List.take_add_one,PBlock.phi_get hkl,Yaa (by rw[Yek];exact hkl),hj];rw[show(some (b.phi k)).toList=[b.phi k]from rfl,show(some ((j:Nat):Int)).toList=[(j:Int)]from rfl,YiY _ _ _ _ _ (by simp[Yek]),hd]
         rfl)
        rw[hd]at hp0;have xl:=h4.box.lt;have x3:=h4.box.cell 3;have x4:=h4.box.cell 4;have x5:=h4.box.cell 5;replace x3:wr.cell? ⟨nb,3,none⟩=some (.slice (some ⟨gi,0,none⟩) F.vars.length F.vars.length):=x3;replace x4:wr.cell? ⟨nb,4,none⟩=some (.slice (some ⟨gb,0,none⟩) F.vars.length F.vars.length):=x4;replace x5:wr.cell? ⟨nb,5,none⟩=some (.slice (some ⟨ga,0,none⟩) F.vars.length F.vars.length):=x5;have gil:=(h4.ints.lt gi rfl).2;have gbl':=(h4.bools.lt gb rfl).2;have gal':=(h4.arrs.lt ga rfl).2;have yi:=Yn h4.ints hdn;have yb:=Y9 h4.bools hdn;have ya:=Yn h4.arrs hdn;have fi:=h4.ints.frozenAt d;have fb:=h4.bools.frozenAt d;have fa:=h4.arrs.frozenAt d;have u1:gb≠gi:=fun e=>Yp h4.ints h4.bools ZD rfl (by rw[e];rfl)
        have u2:ga≠gi:=fun e=>Yp h4.ints h4.arrs ZD rfl (by rw[e];rfl)
        have u3:ga≠gb:=fun e=>Yp h4.bools h4.arrs ZD rfl (by rw[e];rfl)
        have v1:=u1.symm;have v2:=u2.symm;have v3:=u3.symm;have q_gi:nb≠gi:=fun e=>Yas h4.ints h4.box ZD (by rw[e];rfl)
        have r_gi:=q_gi.symm;have q_gb:nb≠gb:=fun e=>Yas h4.bools h4.box ZD (by rw[e];rfl)
        have r_gb:=q_gb.symm;have q_ga:nb≠ga:=fun e=>Yas h4.arrs h4.box ZD (by rw[e];rfl)
        have r_ga:=q_ga.symm;have n_gg_gi:gg≠gi:=by omega
        have m_gg_gi:=n_gg_gi.symm;have n_gg_gb:gg≠gb:=by omega
        have m_gg_gb:=n_gg_gb.symm;have n_gg_ga:gg≠ga:=by omega
        have m_gg_ga:=n_gg_ga.symm;have n_g9_gi:g9≠gi:=by omega
        have m_g9_gi:=n_g9_gi.symm;have n_g9_gb:g9≠gb:=by omega
        have m_g9_gb:=n_g9_gb.symm;have n_g9_ga:g9≠ga:=by omega
        have m_g9_ga:=n_g9_ga.symm;have n_g10_gi:g10≠gi:=by omega
        have m_g10_gi:=n_g10_gi.symm;have n_g10_gb:g10≠gb:=by omega
        have m_g10_gb:=n_g10_gb.symm;have n_g10_ga:g10≠ga:=by omega
        have m_g10_ga:=n_g10_ga.symm;have n_g11_gi:g11≠gi:=by omega
        have m_g11_gi:=n_g11_gi.symm;have n_g11_gb:g11≠gb:=by omega
        have m_g11_gb:=n_g11_gb.symm;have n_g11_ga:g11≠ga:=by omega
        have m_g11_ga:=n_g11_ga.symm;have n_w_gi:wr.heap.size≠gi:=by omega
        have m_w_gi:=n_w_gi.symm;have n_w_gb:wr.heap.size≠gb:=by omega
        have m_w_gb:=n_w_gb.symm;have n_w_ga:wr.heap.size≠ga:=by omega
        have m_w_ga:=n_w_ga.symm;have H4w:=Lh h4;have HKw:=Lh k4;have H4:=Lh (h4.below ((Br wr.heap.size wr).alloc (Nr _) (.cells #[.int .i64 (d:Int),.slice A5 (b.phi k).args.length c5,.slice A6 (b.phi k).froms.length c6] 64)));have HK:=Lh (k4.alloc (.cells #[.int .i64 (d:Int),.slice A5 (b.phi k).args.length c5,.slice A6 (b.phi k).froms.length c6] 64));clear hWx h4 k4 hph hj hggl hcgg gl gbl gal hgg0 hbs cg0 h9l h9c h10l h10c h11l h11c hd;generalize (b.phi k).args.length=n5 at *;generalize (b.phi k).froms.length=n6 at *;obtain⟨wq,rfl⟩:∃wq:World,wq=wr:=⟨_,rfl⟩;go_wp2_with fail;obtain⟨S0,hS0⟩:∃S0:World→Prop,S0=fun w'=>w'.cell? ⟨nb,3,none⟩=some (.slice (some ⟨gi,0,none⟩) F.vars.length F.vars.length)∧w'.cell? ⟨nb,4,none⟩=some (.slice (some ⟨gb,0,none⟩) F.vars.length F.vars.length)∧w'.cell? ⟨nb,5,none⟩=some (.slice (some ⟨ga,0,none⟩) F.vars.length F.vars.length)∧w'.cell? ⟨wq.heap.size,0,none⟩=some (.int .i64 (d:Int))∧w'.cell? ⟨gg,k,none⟩=some (.int .i64 (j:Int))∧w'.cell? ⟨g9,j,none⟩=some (.int .i64 (ith s.ints j))∧w'.cell? ⟨g10,j,none⟩=some (.bool (s.bools.getD j false))∧w'.cell? ⟨g11,j,none⟩=some (.int .i64 (ith s.arrs j))∧nb<w'.heap.size∧wq.heap.size<w'.heap.size∧gg<w'.heap.size∧g9<w'.heap.size∧g10<w'.heap.size∧g11<w'.heap.size:=⟨_,rfl⟩
        have HS0:=Lh hS0;clear hS0;have k0:=fun xw=>(WS.at HS0 xw).1
        have k1:=fun xw=>(WS.at HS0 xw).2.1
        have k2:=fun xw=>(WS.at HS0 xw).2.2.1
        have k3:=fun xw=>(WS.at HS0 xw).2.2.2.1
        have k4:=fun xw=>(WS.at HS0 xw).2.2.2.2.1
        have k5:=fun xw=>(WS.at HS0 xw).2.2.2.2.2.1
        have k6:=fun xw=>(WS.at HS0 xw).2.2.2.2.2.2.1
        have k7:=fun xw=>(WS.at HS0 xw).2.2.2.2.2.2.2.1
        have k8:=fun xw=>(WS.at HS0 xw).2.2.2.2.2.2.2.2.1
        have k9:=fun xw=>(WS.at HS0 xw).2.2.2.2.2.2.2.2.2.1
        have k10:=fun xw=>(WS.at HS0 xw).2.2.2.2.2.2.2.2.2.2.1
        have k11:=fun xw=>(WS.at HS0 xw).2.2.2.2.2.2.2.2.2.2.2.1
        have k12:=fun xw=>(WS.at HS0 xw).2.2.2.2.2.2.2.2.2.2.2.2.1
        have k13:=fun xw=>(WS.at HS0 xw).2.2.2.2.2.2.2.2.2.2.2.2.2
        refine YB (S:=S0) [0,1,2,3,4,5,6,7,8,9,10,11,12,13,14,15,16,17,18,19,20,21,22,23,24,25,26,27,28,29,30,31,32,33,34,35,36,37,38,39,40,41,42,43,44] ZK ZK (fun _ _ _ _ _ h=>h) ?hS (fun hSc=>?_)
        case hS=>
         rw[HS0.out];exact⟨ZI,ZI,ZI,ZI,ZI,ZI,ZI,ZI,ZJ,ZJ,ZJ,ZJ,ZJ,ZJ⟩
        have hne0:Nonempty (WS S0):=⟨⟨_,hSc⟩⟩;simp only[List.map_cons,List.map_nil,Ld,Le]
        repeat
         first
         |((with_reducible refine YC ?_ ?_);exact rfl;go_big_quiet_step (fail);(try with_reducible refine wpQuiet_nil ?_);(try dsimp only))
         |((with_reducible refine YS ?_ ?_ (fun K hK=>?_))
           exact rfl;exact rfl;go_simp;(try go_wp2_with(fail));refine hK.out _ _ ?hS (fun hSc=>?_)
           case hS=>
            first
            |exact hSc
            |(rw[HS0.out]at hSc ⊢;obtain⟨p0,p1,p2,p3,p4,p5,p6,p7,p8,p9,p10,p11,p12,p13⟩:=hSc;exact⟨ZC,ZC,ZC,ZC,ZC,ZC,ZC,ZC,ZT,ZT,ZT,ZT,ZT,ZT⟩)
           clear hK K)
        refine YD ?_;rw[HS0.out]at hSc;obtain⟨p0,p1,p2,p3,p4,p5,p6,p7,p8,p9,p10,p11,p12,p13⟩:=hSc;clear hne0 HS0 k0 k1 k2 k3 k4 k5 k6 k7 k8 k9 k10 k11 k12 k13;go_wp2;go_roundw
        case rel=>exact⟨k+1,ZN,ZO,by rw[HMV.out];first|exact RunO.setA (RunO.setB (RunO.setI (RunO.below H4.out BLN) rfl _) rfl _) rfl _|exact RunO.below (RunO.setA (RunO.setB (RunO.setI H4w.out rfl _) rfl _) rfl _) BL,by first|exact Kp.setCell (Kp.setCell (Kp.setCell ZP (fun h=>h.1 rfl) _) (fun h=>h.2.1 rfl) _) (fun h=>h.2.2 rfl) _|exact((Kp.setCell (Kp.setCell (Kp.setCell HKw.out (p:=⟨gi,d,none⟩) (fun h=>h.1 rfl) _) (p:=⟨gb,d,none⟩) (fun h=>h.2.1 rfl) _) (p:=⟨ga,d,none⟩) (fun h=>h.2.2 rfl) _).alloc _).drew⟩
        case measure=>simp[intOf];omega
      · as_aux_lemma=>
        obtain rfl:k=b.phis.length:=by omega
        rw[List.take_length,List.take_of_length_le (by rw[Yek];exact Nr _)]at h4
        have HX:=Lh (show YM F tb s=(YQ s b.phis (Yu b.phis (s.block:Int)) s).goTo tb by
         unfold YM;rw[← HB.out]
         exact if_neg (by rw[HNG.out];simp))
        have HK:=Lh (Kp.trans (Kp.below (D:=D) HB1.out (fun k _ hk=>HD.out k hk)) (Kp.mono (D':=D) k4 (fun k _ hk=>⟨fun e=>H.out.di (by rw[e]at hk;exact hk),fun e=>H.out.db (by rw[e]at hk;exact hk),fun e=>H.out.da (by rw[e]at hk;exact hk)⟩)));generalize YQ s b.phis (Yu b.phis (s.block:Int)) s=M at *;have xl:=h4.box.lt;have z7:=h4.box.cell 7;have z8:=h4.box.cell 8;have f7:=h4.box.frozen 7;have f8:=h4.box.frozen 8;replace z7:wr.cell? ⟨nb,7,none⟩=some (.int .i64 (M.block:Int)):=z7;replace z8:wr.cell? ⟨nb,8,none⟩=some (.int .i64 (M.pc:Int)):=z8;have HE:=Lh ((h4.setBox (j:=7) (v:=.int .i64 (tb:Int)) (s':={ M with block:=tb }) rfl rfl rfl rfl rfl rfl).setBox (j:=8) (v:=.int .i64 0) (s':=M.goTo tb) rfl rfl rfl rfl rfl rfl);clear h4 k4 hWx;go_wp2;(first|go_end0|((try simp only[Exit.inBlock,Exit.then]);refine bodyPost_ret (results_none rfl _ _ _) rfl ?_));rw[HX.out];exact⟨rfl,_,_,_,HE.out,Kp.setCell (Kp.setCell ZP H.out.bs _) H.out.bs _⟩
end
end Go.Proofs.YthhjlbflpjhahaaGreatDoor
