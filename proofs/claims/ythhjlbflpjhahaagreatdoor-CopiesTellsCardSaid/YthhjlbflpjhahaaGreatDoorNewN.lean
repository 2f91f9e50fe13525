/- The walk of dom.New. -/
import Derived.Test.YthhjlbflpjhahaaGreatDoorFrQN
import Derived.Test.YthhjlbflpjhahaaGreatDoorWaysN
import Derived.Test.YthhjlbflpjhahaaGreatDoorNewPN
import Derived.Test.YthhjlbflpjhahaaGreatDoorSchN
import Derived.Deep.LoopGhost
import Derived.Test.YthhjlbflpjhahaaGreatDoorGraphN
namespace Go.Proofs.YthhjlbflpjhahaaGreatDoor
open Go.RowKit
set_option maxRecDepth 100000
theorem Ykd{w w':World}{x y z u:Value}{t:TypeId}(hb:Below (w.heap.size+1) (w.alloc (.cells #[x,y,z,u] t)) w') :
 w'.cell? ⟨w.heap.size,0,none⟩=some x∧w'.cell? ⟨w.heap.size,1,none⟩=some y∧w'.cell? ⟨w.heap.size,2,none⟩=some z∧w'.cell? ⟨w.heap.size,3,none⟩=some u:=by
 have hg:=heap_alloc_new w (.cells #[x,y,z,u] t);exact⟨(hb.cell (p:=⟨w.heap.size,0,none⟩) (Nat.lt_succ_self _)).trans (cell_of_row _ _ 0 _ _ _ hg),(hb.cell (p:=⟨w.heap.size,1,none⟩) (Nat.lt_succ_self _)).trans (cell_of_row _ _ 1 _ _ _ hg),(hb.cell (p:=⟨w.heap.size,2,none⟩) (Nat.lt_succ_self _)).trans (cell_of_row _ _ 2 _ _ _ hg),(hb.cell (p:=⟨w.heap.size,3,none⟩) (Nat.lt_succ_self _)).trans (cell_of_row _ _ 3 _ _ _ hg)⟩
set_option maxHeartbeats 8000000 in
theorem Yke{W w:World}{fv:Value}{F:PFunc}(hU:Uni W)(hF:FnV W W.heap.size fv F)(hW:Below W.heap.size W w)(hS:Yag F)(hT:Yc F=true) :
 Calls Tryz.prog 83 #[fv] w fun e w'=>∃v,e=.returned (.tuple #[v,.int .i64 0])∧YjV w' w'.heap.size v F.blocks.length (OR F) (PR F)∧Below w.heap.size w w':=by
 have hor:=fun(w:World) (h:Below W.heap.size W w)=>Yj9 hU hF h hS hT
 have hpr:=fun(w:World) (h:Below W.heap.size W w)=>Yka hU hF h hS hT
 obtain⟨n1,n2⟩:=Yaa (Yv hT);have hWs:=hW.size;obtain⟨A0,c0,A1,c1,A2,c2,rfl,l0,l1,l2,-⟩:=id hF.open_;unfold Len at *;have hb0:=(Br w.heap.size w).alloc (Nr _) (.cells #[.slice A0 F.vars.length c0,.slice A1 F.params.length c1,.slice A2 F.blocks.length c2] 26);have G:=Lh (Yda hT);have hpl:(Ya7 F).length=F.blocks.length:=Ycr _;have hil:(Yd (postO F).reverse).length=(OR F).length:=by simp[Yd,OR]
 have hol:=YjU hT;have ho0:0<(OR F).length:=by obtain⟨r,hr⟩:=(Yda hT).hd;rw[hr];simp
 have HPR:=Lh (fun b (hb:b<F.blocks.length)=>YjS hT hb);have HPL:=Lh (fun b=>show(PR F b).length≤64 from Nat.le_trans (YjT b) n2);have hoe:(((OR F).length:Int)==0)=false:=by rw[beq_eq_false_iff_ne];omega
 obtain⟨ib,hib,hz0,hz1,hz2⟩:=info_parts Tryz.info23;clear hT hS;go_enter Tryz.func83,Tryz.ntmps83;go_wp2_with fail;refine(hor _ BL).mono ?_;rintro e w5 ⟨A5,c5,rfl,l5,k5,r5,hb5⟩;rw[hil]at k5 l5;rw[hil];replace r5:Rd w5.heap.size A5 (Yd (OR F)) 1 (Yi w5):=r5;have hX5:Below (w.heap.size+1) (w.alloc (.cells #[.slice A0 F.vars.length c0,.slice A1 F.params.length c1,.slice A2 F.blocks.length c2] 26)) w5:=by simpa using hb5
 obtain⟨hq,hq0,hq1,hq2⟩:=Ym hX5;have hB5:Below w.heap.size w w5:=BL;go_wp2_with fail;obtain⟨S0,hS0⟩:∃S0:World→Prop,S0=fun w'=>w'.cell? ⟨w.heap.size,0,none⟩=some (.slice A0 F.vars.length c0)∧w'.cell? ⟨w.heap.size,1,none⟩=some (.slice A1 F.params.length c1)∧w'.cell? ⟨w.heap.size,2,none⟩=some (.slice A2 F.blocks.length c2)∧Below w5.heap.size w5 w'∧w.heap.size<w'.heap.size:=⟨_,rfl⟩
 have HS0:=Lh hS0;clear hS0;have k0:=fun xw=>(WS.at HS0 xw).1
 have k1:=fun xw=>(WS.at HS0 xw).2.1
 have k2:=fun xw=>(WS.at HS0 xw).2.2.1
 have k3:=fun xw=>(WS.at HS0 xw).2.2.2.1
 have k4:=fun xw=>(WS.at HS0 xw).2.2.2.2
 refine Yx (S:=S0) [0,1,2,3,4,5,6] ZK ZK (fun _ _ _ _ _ h=>h) ?hS (fun hSc=>?_)
 case hS=>
  rw[HS0.out];exact⟨ZI,ZI,ZI,BL,ZJ⟩
 have hne0:Nonempty (WS S0):=⟨⟨_,hSc⟩⟩;simp only[List.map_cons,List.map_nil,Ld,Le]
 repeat
  first
  |((with_reducible refine Yy ?_ ?_);exact rfl;go_big_quiet_step (fail);(try with_reducible refine wpQuiet_nil ?_);(try dsimp only))
  |((with_reducible refine YI ?_ ?_ (fun K hK=>?_))
    exact rfl;exact rfl;go_simp;(try go_wp2_with(go_at_call 36;refine(hpr _ BL).mono ?_;rintro e w9 ⟨A6,c6,rfl,l9,k9,r9,hb9⟩;obtain⟨hc9,hf9⟩:=Ya hb9;have hz9:=hb9.size));refine hK.out _ _ ?hS (fun hSc=>?_)
    case hS=>
     first
     |exact hSc
     |(rw[HS0.out]at hSc ⊢;obtain⟨p0,p1,p2,p3,p4⟩:=hSc;exact⟨ZC0,ZC1,ZC2,(by first|exact p3.trans (hb9.mono (by have:=p3.size;first|omega|(simp at this ⊢;omega)))|exact BL),(by first|exact Nt p4 hb9.size|exact ZT)⟩)
    clear hK K)
 refine Yz ?_;rw[HS0.out]at hSc;obtain⟨p0,p1,p2,p3,p4⟩:=hSc;clear hne0 HS0 k0 k1 k2 k3 k4;rw[hpl]at k9 l9;obtain⟨w6,rfl⟩:∃w6:World,w6=w9:=⟨_,rfl⟩;have hB6:Below w.heap.size w w6:=hB5.trans (p3.mono hB5.size);replace r5:Rd w6.heap.size A5 (Yd (OR F)) 1 (Yi w6):=r5.keep p3.size fun b o x hb hx=>by unfold Yi at *;rw[← hx];exact p3.cell (p:=⟨b,o,none⟩) hb
 have hne:=fun(w':World) (h:Below w6.heap.size w6 w')=>Yi7 (cp:=c6) h r5 k5 r9 HPR.out hpl G.out n1 n2 (Nat.le_trans hol n2) HPL.out
 obtain⟨bo,oo,rfl,hbo,hOc⟩:=r5.first (by rw[show(Yd (OR F)).length=(OR F).length by simp[Yd]];exact ho0);replace hOc:∀j,j+1<(OR F).length→w6.cell? ⟨bo,oo+(j+1),none⟩=some (.int .i64 (((OR F).getD (j+1) 0:Nat):Int)):=fun j hj=>by
  rw[hOc (j+1) (by simpa[Yd]using hj)];simp[ith,Yd,List.getD,hj]
 replace hOc:=Lh hOc;clear hc9 hf9 hb9 hX5 hor hpr;go_wp2_with fail;refine Yjl ZK (fun a0 f a wr=>∃v22 v23 v24 v25 v26 v27 v28 v29 v30 v31 v32 v33 v34 v7:Value,a=((((((((((((((a0.put (some 22) v22).put (some 23) v23).put (some 24) v24).put (some 25) v25).put (some 26) v26).put (some 27) v27).put (some 28) v28).put (some 29) v29).put (some 30) v30).put (some 31) v31).put (some 32) v32).put (some 33) v33).put (some 34) v34).put (some 7) v7)∧NewW F.blocks.length (OR F) (PR F) (.slice (some ⟨bo,oo,none⟩) (OR F).length c5) (.slice A6 F.blocks.length c6) w6 f wr v22 v23 v24 v25 v26 v27 v28 v29 v30 v31 v32 v33 v34 v7) ZK ⟨undef,undef,undef,undef,undef,undef,undef,undef,undef,undef,undef,undef,undef,undef,?_,NewW.start⟩ ?step ?fin
 · simp only[Act.put,La,Lz,Lc]
 case step=>
  intro f i o a1 w1 ho hf hd hI K hK;obtain⟨v22,v23,v24,v25,v26,v27,v28,v29,v30,v31,v32,v33,v34,v7,rfl,h⟩:=hI;have hd':∀j,(o.after.any fun e=>Region.binds .any e&&e.on==j)=true→f j=true:=fun j hj=>by
   obtain⟨e,he,h2⟩:=Array.any_eq_true'.1 hj;rw[Bool.and_eq_true,beq_iff_eq]at h2;have:=hd e he h2.1
   rwa [h2.2]at this
  clear hd
  match i,hf,ho,hd' with
  |0,hf,ho,hd'=>
   obtain rfl:=Option.some.inj ho;simp only[Act.put,La,Lz,Lc];go_simp
   try go_wp2
   refine hK.out _ _ ⟨_,_,_,_,_,_,_,_,_,_,_,_,_,_,?_,h.s0 (Br _ _) hf rfl⟩;simp only[Act.put,La,Lz,Lc]
  |1,hf,ho,hd'=>
   obtain rfl:=Option.some.inj ho;simp only[Act.put,La,Lz,Lc];go_simp
   try go_wp2
   refine hK.out _ _ ⟨_,_,_,_,_,_,_,_,_,_,_,_,_,_,?_,h.s1 (Br _ _) hf rfl⟩;simp only[Act.put,La,Lz,Lc]
  |2,hf,ho,hd'=>
   obtain rfl:=Option.some.inj ho;simp only[Act.put,La,Lz,Lc];go_simp
   try go_wp2
   refine hK.out _ _ ⟨_,_,_,_,_,_,_,_,_,_,_,_,_,_,?_,h.s2 (Br _ _) hf rfl⟩;simp only[Act.put,La,Lz,Lc]
  |3,hf,ho,hd'=>
   obtain rfl:=Option.some.inj ho;have f0:f 0=true:=hd' 0 ZK;have f1:f 1=true:=hd' 1 ZK;have f2:f 2=true:=hd' 2 ZK;simp only[Act.put,La,Lz,Lc];obtain rfl:=h.e0 f0;obtain rfl:=h.e1 f1;obtain rfl:=h.e2 f2;go_simp;go_wp2_with(go_at_call 106;refine(hne _ h.hb).mono ?_;rintro e w9 ⟨g9,rfl,L9,HL9,ho9,hb9⟩);refine hK.out _ _ ⟨_,_,_,_,_,_,_,_,_,_,_,_,_,_,?_,h.s3 hb9 hf ⟨g9,rfl,(ho9.lt _ rfl).1,L9,HL9,Ycs ho9 h.hb.size⟩⟩;simp only[Act.put,La,Lz,Lc]
  |4,hf,ho,hd'=>
   obtain rfl:=Option.some.inj ho;simp only[Act.put,La,Lz,Lc];go_simp
   try go_wp2
   refine hK.out _ _ ⟨_,_,_,_,_,_,_,_,_,_,_,_,_,_,?_,h.s4 ((Br _ _).alloc (Nr _) _) hf ⟨_,rfl,ZS,cell_of_row _ _ 0 _ _ _ (heap_alloc_new _ _)⟩⟩;simp only[Act.put,La,Lz,Lc]
  |5,hf,ho,hd'=>
   obtain rfl:=Option.some.inj ho;simp only[Act.put,La,Lz,Lc];go_simp
   try go_wp2
   refine hK.out _ _ ⟨_,_,_,_,_,_,_,_,_,_,_,_,_,_,?_,h.s5 (Br _ _) hf rfl⟩;simp only[Act.put,La,Lz,Lc]
  |6,hf,ho,hd'=>
   obtain rfl:=Option.some.inj ho;have f3:f 3=true:=hd' 3 ZK;have f4:f 4=true:=hd' 4 ZK;have f5:f 5=true:=hd' 5 ZK;simp only[Act.put,La,Lz,Lc];obtain⟨b4,rfl,hb4,hc4⟩:=h.e4 f4;obtain rfl:=h.e5 f5;go_simp;go_wp2_with(go_at_call 69;refine(Yeo (x:=-1) hb4 hc4 n1 n2).mono ?_;rintro e w9 ⟨g9,rfl,ho9,hb9⟩);refine hK.out _ _ ⟨_,_,_,_,_,_,_,_,_,_,_,_,_,_,?_,h.s6 hb9 hf ⟨g9,rfl,(ho9.lt _ rfl).1,Ycs ho9 h.hb.size⟩⟩;simp only[Act.put,La,Lz,Lc]
  |7,hf,ho,hd'=>
   obtain rfl:=Option.some.inj ho;simp only[Act.put,La,Lz,Lc];go_simp
   try go_wp2
   refine hK.out _ _ ⟨_,_,_,_,_,_,_,_,_,_,_,_,_,_,?_,h.s7 (Br _ _) hf rfl⟩;simp only[Act.put,La,Lz,Lc]
  |8,hf,ho,hd'=>
   obtain rfl:=Option.some.inj ho;have f7:f 7=true:=hd' 7 ZK;simp only[Act.put,La,Lz,Lc];obtain rfl:=h.e7 f7;obtain⟨w9,hrun,ho9,hg9⟩:=run_make_full (P:=Tryz.prog) w1 w1.heap.size 79 23 ib _ 1 Tryz.underlying79 hib hz0 hz1 .i64 .i64 F.blocks.length (by rw[hz2];omega) (by unfold maxLen;omega) (Nr _);have hb9:Below w1.heap.size w1 w9:=(Br _ _).grown hg9 (Nr _) (fun k hk=>by cases hk);rw[show(madeCells (Value.slice none 0 0).cells (F.blocks.length*1)).toList=List.replicate F.blocks.length (Value.slice none 0 0) by simp[Value.cells,toList_madeCells_one]]at ho9;go_simp;refine hK.out _ _ ⟨_,_,_,_,_,_,_,_,_,_,_,_,_,_,?_,h.s8 hb9 hf ⟨_,rfl,(ho9.lt _ rfl).1,Ycs ho9 h.hb.size⟩⟩;simp only[Act.put,La,Lz,Lc]
  |9,hf,ho,hd'=>
   obtain rfl:=Option.some.inj ho;simp only[Act.put,La,Lz,Lc];go_simp
   try go_wp2
   refine hK.out _ _ ⟨_,_,_,_,_,_,_,_,_,_,_,_,_,_,?_,h.s9 (Br _ _) hf rfl⟩;simp only[Act.put,La,Lz,Lc]
  |10,hf,ho,hd'=>
   obtain rfl:=Option.some.inj ho;have f9:f 9=true:=hd' 9 ZK;simp only[Act.put,La,Lz,Lc];obtain rfl:=h.e9 f9;obtain⟨w9,hrun,ho9,hg9⟩:=run_make_full (P:=Tryz.prog) w1 w1.heap.size 79 23 ib _ 1 Tryz.underlying79 hib hz0 hz1 .i64 .i64 F.blocks.length (by rw[hz2];omega) (by unfold maxLen;omega) (Nr _);have hb9:Below w1.heap.size w1 w9:=(Br _ _).grown hg9 (Nr _) (fun k hk=>by cases hk);rw[show(madeCells (Value.slice none 0 0).cells (F.blocks.length*1)).toList=List.replicate F.blocks.length (Value.slice none 0 0) by simp[Value.cells,toList_madeCells_one]]at ho9;go_simp;refine hK.out _ _ ⟨_,_,_,_,_,_,_,_,_,_,_,_,_,_,?_,h.s10 hb9 hf ⟨_,rfl,(ho9.lt _ rfl).1,Ycs ho9 h.hb.size⟩⟩;simp only[Act.put,La,Lz,Lc]
  |11,hf,ho,hd'=>
   obtain rfl:=Option.some.inj ho;have f3:f 3=true:=hd' 3 ZK;have f6:f 6=true:=hd' 6 ZK;have f8:f 8=true:=hd' 8 ZK;have f10:f 10=true:=hd' 10 ZK;simp only[Act.put,La,Lz,Lc];obtain⟨g3,rfl,-⟩:=h.e3 f3;obtain⟨g6,rfl,-⟩:=h.e6 f6;obtain⟨g8,rfl,-⟩:=h.e8 f8;obtain⟨g10,rfl,-⟩:=h.e10 f10;go_simp
   try go_wp2
   refine hK.out _ _ ⟨_,_,_,_,_,_,_,_,_,_,_,_,_,_,?_,h.s11 (Br _ _) hf ⟨⟨f3,f6,f8,f10⟩,rfl⟩⟩;simp only[Act.put,La,Lz,Lc]
  |12,hf,ho,hd'=>
   obtain rfl:=Option.some.inj ho;have f11:f 11=true:=hd' 11 ZK;simp only[Act.put,La,Lz,Lc];obtain⟨⟨f3,f6,f8,f10⟩,rfl⟩:=h.e11 f11;obtain⟨g3,rfl,-⟩:=h.e3 f3;obtain⟨g6,rfl,-⟩:=h.e6 f6;obtain⟨g8,rfl,-⟩:=h.e8 f8;obtain⟨g10,rfl,-⟩:=h.e10 f10;go_simp
   try go_wp2
   refine hK.out _ _ ⟨_,_,_,_,_,_,_,_,_,_,_,_,_,_,?_,h.s12 ((Br _ _).alloc (Nr _) _) hf ⟨f11,_,rfl,ZS,Nr _,Ykd (Br _ _)⟩⟩;simp only[Act.put,La,Lz,Lc]
  |13,hf,ho,hd'=>
   obtain rfl:=Option.some.inj ho;have f12:f 12=true:=hd' 12 ZK;simp only[Act.put,La,Lz,Lc];go_simp
   try go_wp2
   refine hK.out _ _ ⟨_,_,_,_,_,_,_,_,_,_,_,_,_,_,?_,h.s13 (Br _ _) hf ⟨f12,rfl⟩⟩;simp only[Act.put,La,Lz,Lc]
  |n+14,_,ho,_=>cases ho
 case fin=>
  intro f a1 w1 hall hI;obtain⟨v22,v23,v24,v25,v26,v27,v28,v29,v30,v31,v32,v33,v34,v7,rfl,h⟩:=hI;simp only[Act.put,La,Lz,Lc];obtain⟨gn,rfl,L,HL,o3⟩:=h.e3 (hall 3 ZD);obtain⟨gl,rfl,o6⟩:=h.e6 (hall 6 ZD);obtain⟨gk,rfl,o8⟩:=h.e8 (hall 8 ZD);obtain⟨gf,rfl,o10⟩:=h.e10 (hall 10 ZD);obtain⟨-,tb,rfl,ht,htB,⟨q0,q1,q2,q3⟩,hlt⟩:=h.e12 (hall 12 ZD);obtain⟨-,rfl⟩:=h.e13 (hall 13 ZD);have d1:=h.d36 (hall 3 ZD) (hall 6 ZD) gn rfl;have d2:=h.d8a (hall 8 ZD) (hall 10 ZD) gk rfl;have hb1:=h.hb;have hdd:gn≠gl∧gn≠gk∧gn≠gf∧gn≠tb∧gl≠gk∧gl≠gf∧gl≠tb∧gk≠gf∧gk≠tb∧gf≠tb:=by
   have e1:=hlt gn (.inl rfl);have e2:=hlt gl (.inr (.inl rfl));have e3:=hlt gk (.inr (.inr (.inl rfl)));have e4:=hlt gf (.inr (.inr (.inr rfl)));have n1:gn≠gk:=fun e=>Y9 o3 o8 ZD (g:=gn) rfl (by rw[e];rfl)
   have n2:gn≠gf:=fun e=>Y9 o3 o10 ZD (g:=gn) rfl (by rw[e];rfl)
   have n3:gl≠gk:=fun e=>Y9 o6 o8 ZD (g:=gl) rfl (by rw[e];rfl)
   have n4:gl≠gf:=fun e=>Y9 o6 o10 ZD (g:=gl) rfl (by rw[e];rfl)
   exact⟨fun e=>d1 (by rw[e];rfl),n1,n2,ZO,n3,n4,ZO,fun e=>d2 (by rw[e];rfl),ZO,ZO⟩
  have T0:T1 w6 w1 F.blocks.length gn gl gk gf tb (L.set 0 none) (List.replicate F.blocks.length none) (List.replicate F.blocks.length []):=
   ⟨hb1,RowO.of_own o3 (by rw[List.length_set];exact HL.out.len),by simpa[Yax,YH]using o6,by simpa using OwnRows.made (av:=avT gn gl gf tb) o8,o10,ht,q0,q1,q2,q3,hdd⟩
  obtain⟨L0,hL0⟩:∃L0,L0=L.set 0 none:=⟨_,rfl⟩;rw[← hL0]at T0;have HL0:=Lh hL0;have hL0n:L0.length=F.blocks.length:=by rw[hL0,List.length_set];exact HL.out.len
  have T1':=Lh (T0.setL (i:=0) (o:=some 0));have hgl:=(o6.lt _ rfl).2;have hfz:=o6.frozenAt 0;have hc0:=Ybq (L:=List.replicate F.blocks.length none) (by simpa[Yax,YH]using o6) ZS (show 0<F.blocks.length from ZO);have hgt:gl≠tb:=hdd.2.2.2.2.2.2.1;have hgt':tb≠gl:=fun e=>hgt e.symm
  clear hall h o3 o6 o8 o10 d1 d2 hb1 T0 hdd hlt htB hL0 q0 q2 q3;go_wp2_with(refine Yjm rfl _ _ rfl _ Tryz.underlying23 ZK bo oo _ _ rfl ZO k5 ?_;intro X5 hX5)
  go_loopw[43] (fun i wr=>∃(j:Nat) (V:List (Option Nat)),i=.int .i64 j∧j+1≤(OR F).length∧Hid (LvP (OR F) F.blocks.length (fnO L) j V)∧T1 w6 wr F.blocks.length gn gl gk gf tb L0 V (List.replicate F.blocks.length [])) (fun i _=>(OR F).length-(intOf i).toNat)
  case atStart=>exact⟨0,_,rfl,ZO,LvP.start G.out n1,T1'.out⟩
  case round=>as_aux_lemma=>
   clear hc0 hfz hgl ht q1;obtain⟨j,V,rfl,hj,HV,hI⟩:=hrel
   by_cases hjl:j+1<(OR F).length
   ·
    obtain rfl:=hX5 ZO;have hWr:Below w6.heap.size w6 wr:=hI.hb;have hc:=(hWr.cell (p:=⟨bo,oo+(j+1),none⟩) hbo).trans (hOc.out j hjl);rw[show oo+(j+1)=oo+1+j from ZO]at hc;have hbo':=Nt hbo hWr.size;have hjl2:j<(OR F).length-1:=by omega
    have hjl3:(j:Int)<(((OR F).length-1:Nat):Int):=by omega
    obtain⟨hbn,hb0',p,i,hp,hpn,hVp,hil,hV2⟩:=HV.out.turn G.out HL.out hjl rfl;generalize (OR F).getD (j+1) 0=b at *;have hnb:fnO L0 b=some p:=by rw[HL0.out,Yal hb0'];exact hp
    have hc0:=hI.hn.at_ ZO hnb;have hcp:=(RowO.of_own hI.hl HV.out.len).at_ (by rw[HV.out.len];exact hpn) hVp;have hcb:=Ybq hI.hl HV.out.len hbn;have hpb:p≠b:=fun e=>by
     have:=(HL.out.tok.up hb0' hp).2.2.1;rw[e]at this;omega
    have hpb':b≠p:=fun e=>hpb e.symm
    have hfz:=hI.hl.frozenAt b;have hgl:=(hI.hl.lt _ rfl).2;have hgn:=hI.hn.1;have q0:=hI.c0;have q1:=hI.c1;have ht:=hI.ht;have hgt:gl≠tb:=hI.d.2.2.2.2.2.2.1;have hgt':tb≠gl:=fun e=>hgt e.symm
    have hgg:gn≠gl:=hI.d.1;have hgg':gl≠gn:=fun e=>hgg e.symm
    have hwr:wrap64 ((i:Int)+1)=((i+1:Nat):Int):=by unfold wrap64;omega
    have HS:=Lh (hI.setL (i:=b) (o:=some (i+1)));have HV2:=Lh hV2;clear hV2 hVp hp hnb;go_wp2_with fail;obtain⟨S0,hS0⟩:∃S0:World→Prop,S0=fun w'=>w'.cell? ⟨tb,0,none⟩=some (.slice (some ⟨gn,0,none⟩) F.blocks.length F.blocks.length)∧w'.cell? ⟨tb,1,none⟩=some (.slice (some ⟨gl,0,none⟩) F.blocks.length F.blocks.length)∧w'.cell? ⟨gn,b,none⟩=some (.int .i64 (p:Int))∧w'.cell? ⟨gl,p,none⟩=some (.int .i64 (i:Int))∧tb<w'.heap.size∧gn<w'.heap.size∧gl<w'.heap.size:=⟨_,rfl⟩
    have HS0:=Lh hS0;clear hS0;have k0:=fun xw=>(WS.at HS0 xw).1
    have k1:=fun xw=>(WS.at HS0 xw).2.1
    have k2:=fun xw=>(WS.at HS0 xw).2.2.1
    have k3:=fun xw=>(WS.at HS0 xw).2.2.2.1
    have k4:=fun xw=>(WS.at HS0 xw).2.2.2.2.1
    have k5:=fun xw=>(WS.at HS0 xw).2.2.2.2.2.1
    have k6:=fun xw=>(WS.at HS0 xw).2.2.2.2.2.2
    refine Yx (S:=S0) [0,1,2,3,4,5,6,7,8,9,10,11,12,13,14,15,16,17,18,19,20] ZK ZK (fun _ _ _ _ _ h=>h) ?hS (fun hSc=>?_)
    case hS=>
     rw[HS0.out];exact⟨ZI,ZI,ZI,ZI,ZJ,ZJ,ZJ⟩
    have hne0:Nonempty (WS S0):=⟨⟨_,hSc⟩⟩;simp only[List.map_cons,List.map_nil,Ld,Le]
    repeat
     first
     |((with_reducible refine Yy ?_ ?_);exact rfl;go_big_quiet_step (fail);(try with_reducible refine wpQuiet_nil ?_);(try dsimp only))
     |((with_reducible refine YI ?_ ?_ (fun K hK=>?_))
       exact rfl;exact rfl;go_simp;(try go_wp2_with(fail));refine hK.out _ _ ?hS (fun hSc=>?_)
       case hS=>
        first
        |exact hSc
        |(rw[HS0.out]at hSc ⊢;obtain⟨p0,p1,p2,p3,p4,p5,p6⟩:=hSc;exact⟨ZC,ZC,ZC,ZC,ZT,ZT,ZT⟩)
       clear hK K)
    refine Yz ?_;rw[HS0.out]at hSc;obtain⟨p0,p1,p2,p3,p4,p5,p6⟩:=hSc;clear hne0 HS0 k0 k1 k2 k3 k4 k5 k6;go_wp2;go_roundw
    case rel=>exact⟨j+1,_,ZN,ZO,HV2.out,HS.out.below ((Br _ _).drew)⟩
    case measure=>simp[intOf];omega
   · have hje:j=(OR F).length-1:=by omega
     rw[hje]at HV;have HLv:=Lh (HV.out.fin G.out);have hVn:=HV.out.len;have hjl4:¬j<(OR F).length-1:=by omega
     have hjl5:¬(j:Int)<(((OR F).length-1:Nat):Int):=by omega
     clear HV hje;go_wp2
     go_loopw[69] (fun i wr=>∃b:Nat,i=.int .i64 b∧b≤F.blocks.length∧T1 w6 wr F.blocks.length gn gl gk gf tb L0 V (YZ L0 b)) (fun i _=>F.blocks.length-(intOf i).toNat)
     case atStart=>exact⟨0,rfl,Nz _,by rw[YZ,hL0n];exact hI⟩
     case round=>as_aux_lemma=>
      clear hI;obtain⟨b,rfl,hb,hI⟩:=hrel;have ht:=hI.ht;have q0:=hI.c0;have q1:=hI.c1;have q2:=hI.c2;have q3:=hI.c3;have hgn:=hI.hn.1;have hgk:=hI.hk.blk
      by_cases hbl:b<F.blocks.length
      · have hbl3:(b:Int)<(F.blocks.length:Int):=by omega
        have hcn:=hI.hn.2 b ZO;cases hp:fnO L0 b with
        |none=>
         rw[hp]at hcn;replace hcn:wr.cell? ⟨gn,b,none⟩=some (.int .i64 (-1)):=hcn;have HS:=Lh (show YZ L0 (b+1)=YZ L0 b by rw[YZ,hp]);clear hp;go_wp2;go_roundw
         case rel=>exact⟨b+1,ZN,ZO,by rw[HS.out];exact hI⟩
         case measure=>simp[intOf];omega
        |some p=>
         rw[hp]at hcn;replace hcn:wr.cell? ⟨gn,b,none⟩=some (.int .i64 (p:Int)):=hcn;have hpm:((p:Int) !=-1)=true:=by rw[bne_iff_ne];omega
         have hpn:p<F.blocks.length:=by
          have hb0:b≠0:=fun e=>by rw[e,HL0.out,YfZ (by rw[HL.out.len];omega)]at hp;cases hp
          rw[HL0.out,Yal hb0]at hp;exact G.out.lt p (HL.out.tok.up hb0 hp).2.1
         have HS:=Lh (show YZ L0 (b+1)=YS b (YZ L0 b) p by rw[YZ,hp]);have hKn:(YZ L0 b).length=F.blocks.length:=by rw[Yb4,hL0n]
         have hKl:((YZ L0 b).getD p []).length≤b:=by rw[Yet ZO];simpa[Yd]using Yeu b
         have hI':=hI.below ((Br wr.heap.size wr).drew);obtain⟨v,hcv,hown⟩:=hI'.hk.at_ (c:=p) ZO;obtain⟨Av,cv,rfl⟩:=Yh hown;obtain⟨v',w3,hrun,hown3,hg3,hfr3⟩:=YfY (P:=Tryz.prog) (ty:=23) wr.drew w6.heap.size 3 8 Tryz.underlying23 Tryz.info3 rfl _ _ _ hown (.int .i64 (b:Int)) rfl ZO ZD hI'.hb.size;obtain⟨hT3,hm1,hm2,hm3,hm4,hm5⟩:=hI'.addK hKn hpn hcv hown3 hg3 hfr3;obtain⟨Av',cv',rfl⟩:=Yh hown3;replace hrun:(Builtin.append_ #[23,23] 23 #[.slice Av ((YZ L0 b).getD p []).length cv,.slice (some ⟨wr.heap.size,0,none⟩) 1 1]).run Tryz.prog (wr.alloc (.cells #[.int .i64 (b:Int)] 3)).drew=.ok (.slice Av' (((YZ L0 b).getD p []).length+1) cv') w3:=hrun;have HT3:=Lh hT3;have hgkl:=hgk.2;have hgt:gk≠tb:=hI.d.2.2.2.2.2.2.2.2.1;have hgt':tb≠gk:=fun e=>hgt e.symm
         generalize ((YZ L0 b).getD p []).length=m at *;clear hT3 hown3 hg3 hfr3 hp hown hI';replace hcv:wr.cell? ⟨gk,p,none⟩=some (.slice Av m cv):=hcv;go_wp2_with fail;obtain⟨S0,hS0⟩:∃S0:World→Prop,S0=fun w'=>w'.cell? ⟨tb,2,none⟩=some (.slice (some ⟨gk,0,none⟩) F.blocks.length F.blocks.length)∧w'.cell? ⟨gk,p,none⟩=some (.slice Av m cv)∧tb<w'.heap.size∧gk<w'.heap.size:=⟨_,rfl⟩
         have HS0:=Lh hS0;clear hS0;have k0:=fun xw=>(WS.at HS0 xw).1
         have k1:=fun xw=>(WS.at HS0 xw).2.1
         have k2:=fun xw=>(WS.at HS0 xw).2.2.1
         have k3:=fun xw=>(WS.at HS0 xw).2.2.2
         refine Ybz (S:=S0) [16] ZK ?hS (fun hSc hcl=>?_)
         case hS=>
          rw[HS0.out];exact⟨ZI,ZI,ZJ,ZJ⟩
         have hne0:Nonempty (WS S0):=⟨⟨_,hSc⟩⟩;have hneT:Nonempty (WS (fun _=>True)):=match hne0 with|⟨x⟩=>⟨⟨x.w,trivial⟩⟩
         refine Ya1 [(0,0),(1,0),(2,0),(3,0),(4,0),(5,0),(6,0),(7,0),(8,0),(9,0),(10,0),(11,0),(12,0),(13,1),(14,1),(15,0)] 1 rfl ZK (fun _ _ _ _ _ h=>h) hSc hcl ?_
         all_goals
          (try simp only[List.map_cons,List.map_nil,Ld,Le])
          repeat
           first
           |((with_reducible refine Ya2 ?_ ?_);exact rfl;dsimp only;go_big_quiet_step (fail);(try with_reducible refine wpQuiet_nil ?_);(try dsimp only))
           |((with_reducible refine Ya4 ?_ ?_);exact rfl;dsimp only;go_big_quiet_step (fail);(try with_reducible refine wpQuiet_nil ?_);(try dsimp only))
           |((with_reducible refine Ya3 ?_ ?_ (fun K hK=>?_))
             exact rfl;exact rfl;dsimp only
             first
             |(refine Yct _ _ _ rfl rfl rfl hrun ?_;simp only[Act.put,La,Lz,Lc])
             |(go_simp)
             refine hK.out _ _ ?hS (fun hSc=>?_)
             case hS=>
              first
              |exact hSc
              |(rw[HS0.out]at hSc ⊢;obtain⟨p0,p1,p2,p3⟩:=hSc;exact⟨ZC0,ZC1,ZT2,ZT3⟩)
             clear hK K)
          (try(refine Ya5 ?_;intro hSc hcl))
         all_goals
          refine YbA [16] rfl ZK ?_;simp only[List.map_cons,List.map_nil,Ld,Le];rw[HS0.out]at hSc;obtain⟨p0,p1,p2,p3⟩:=hSc;clear hne0 hneT hcl HS0 k0 k1 k2 k3;go_wp2;go_roundw
          (case rel=>exact⟨b+1,ZN,ZO,by rw[HS.out];exact HT3.out⟩)
          (case measure=>simp[intOf];omega)
      · obtain rfl:b=F.blocks.length:=by omega
        have hbl4:¬((F.blocks.length:Nat):Int)<(F.blocks.length:Int):=by omega
        obtain⟨d1,d2,d3,d4,d5,d6,d7,d8,d9,d10⟩:=hI.d;have hgf:=hI.hf.lt gf rfl;have hfr:=Yj1 (cp:=c6) (co:=c5) hI.hb hgf.1 hgf.2 G.out n2 (Nat.le_trans hol n2) HL.out HLv.out hVn HL0.out hbo r5 r9 HPR.out hpl HPL.out hI.ht (fun e=>d10 e.symm) hI.c0 hI.c1 hI.c2 hI.c3 hI.hn d3 ⟨(hI.hl.lt _ rfl).2,fun i hi=>Ybq hI.hl hVn ZO⟩ d6 hI.hb.size hI.hf;clear q0 q1 q2 q3;go_wp2_with fail;refine hfr.mono ?_;rintro e w9 ⟨rfl,X,rfl,hT2⟩;go_wp2
        go_ret2
        have htf:tb≠gf:=fun e=>d10 e.symm
        have hB9:Below w.heap.size w w9:=hB6.trans ((hI.hb.trans (hT2.o.hb.mono hgf.1)).mono hB6.size);have hV9:=hT2.o.rowO (r:=gl) (L:=V) ⟨(hI.hl.lt _ rfl).2,fun i hi=>Ybq hI.hl hVn ZO⟩ d6;have hN9:=hT2.o.rowO hI.hn d3;have hK9:=hI.hk.only hT2.o (.inr (.inr (.inl rfl))) d8;rw[YjW,hL0n]at hK9;refine⟨_,rfl,⟨tb,gn,gl,gk,gf,L,V,rfl,Nt hI.ht hT2.o.hb.size,HL.out,HLv.out,hVn,(hT2.o.cell hI.ht htf).trans hI.c0,(hT2.o.cell hI.ht htf).trans hI.c1,(hT2.o.cell hI.ht htf).trans hI.c2,(hT2.o.cell hI.ht htf).trans hI.c3,hN9.1,hV9.1,fun i hi=>?_,fun i hi=>hV9.2 i ZO,?_,?_⟩,hB9⟩
        · rw[← HL0.out];exact hN9.2 i ZO
        · rw[← HL0.out]
          refine hK9.rd ZX (fun xs hx=>?_);obtain⟨x,_,rfl⟩:=List.mem_map.1 hx;have:=Yeu (L0:=L0) (p:=x) F.blocks.length;simp[Yd];omega
        · rw[← HL0.out]
          refine hT2.x.rd ZX (fun xs hx=>?_);obtain⟨x,_,rfl⟩:=List.mem_map.1 hx;have:(Ybf F.blocks.length (SF (OR F) (PR F) L0 (fnO L) (OR F)) x).length≤F.blocks.length:=Nat.le_trans (List.length_filter_le _ _) ZS;simp[Yd];omega
def Y1(F:PFunc)(a b:Nat):Prop:=a∈OR F∧b∈OR F∧(a=b∨¬Yad (fun x y=>x∈PR F y) a b)
theorem Ykf{F:PFunc}(h:Yc F=true){a:Nat}{b:Nat}(hp:Ybi (RF F (a:Int)) 0 b):Yad (fun x y=>x∈PR F y) a b:=by
 have key:∀{x y},RF F (a:Int) x y→x∈PR F y∧y≠a∧x≠a:=fun {x y} hr=>⟨(Ybu h).2 ⟨hr.1,(Ybt h hr.1).2 hr.2.2.2.2⟩,by have:=hr.2.2.2.1;omega,by have:=hr.2.2.1;omega⟩
 induction hp with
 |one hr=>exact .step (.start (fun e=>(key hr).2.2 e.symm)) (key hr).1 (key hr).2.1
 |more _ hr ih=>exact .step ih (key hr).1 (key hr).2.1
theorem Ygs{F:PFunc}(h:Yc F=true){a b:Nat}(hA:Yad (fun x y=>x∈PR F y) a b):a≠0∧b≠a∧(b=0∨Ybi (RF F (a:Int)) 0 b):=by
 induction hA with
 |start h0=>exact⟨h0,fun e=>h0 e.symm,.inl rfl⟩
 |@step x y _ hp hy ih=>
  obtain⟨h0,hx,h1⟩:=ih;have hm:=(Ybu h).1 hp;have hr:RF F (a:Int) x y:=⟨hm.1,YcR h hm.1 y hm.2,ZO,ZO,(Ybt h hm.1).1 hm.2⟩;refine⟨h0,hy,.inr ?_⟩;rcases h1 with rfl|h1
  · exact .one hr
  · exact .more h1 hr
theorem Ykg{F:PFunc}(h:Yc F=true){a b:Nat}(hb:b<F.blocks.length):(((YaO (RF F (a:Int)) F.blocks.length 0).set 0 (decide ((a:Int)≠0))).getD b false=true)↔Yad (fun x y=>x∈PR F y) a b:=by
 have hn:=(Yaa (Yv h)).1
 by_cases h0:b=0
 · subst h0
   have:((YaO (RF F (a:Int)) F.blocks.length 0).set 0 (decide ((a:Int)≠0))).getD 0 false=decide ((a:Int)≠0):=by
    have hl:0<(YaO (RF F (a:Int)) F.blocks.length 0).length:=by rw[YeG];omega
    simp[List.getD,hl]
   rw[this,decide_eq_true_eq];constructor
   · exact fun e=>.start ZO
   · intro hA
     have:=(Ygs h hA).1;omega
 · rw[List.getD,List.getElem?_set_ne (fun e=>h0 e.symm),← List.getD_eq_getElem?_getD,YdE hb]
   constructor
   · exact Ykf h
   · intro hA
     exact(Ygs h hA).2.2.resolve_left h0
theorem YeM{F:PFunc}{b:Nat}(hb:b<F.blocks.length):(YT F.blocks.length (postO F).reverse).getD b false=true↔b∈OR F:=Ygi hb
open Classical in
noncomputable def tabB (F:PFunc) (a b:Nat):Bool:=decide (Y1 F a b)
open Classical in
theorem YdG{F:PFunc}{a b:Nat}:tabB F a b=true↔Y1 F a b:=by unfold tabB;rw[decide_eq_true_eq]
end Go.Proofs.YthhjlbflpjhahaaGreatDoor
