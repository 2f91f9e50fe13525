/- The walk of dom.New. -/
import Derived.Test.YtjlclkcmfokobaaGreatDoorFrQZ
import Derived.Test.YtjlclkcmfokobaaGreatDoorWaysZ
import Derived.Test.YtjlclkcmfokobaaGreatDoorNewPZ
import Derived.Test.YtjlclkcmfokobaaGreatDoorSchZ
import Derived.Deep.LoopGhost
import Derived.Test.YtjlclkcmfokobaaGreatDoorGraphZ
namespace Go.Proofs.YtjlclkcmfokobaaGreatDoor
open Go.RowKit
set_option maxRecDepth 100000
theorem YnC{w w':World}{x y z u:Value}{t:TypeId}(hb:Below (w.heap.size+1) (w.alloc (.cells #[x,y,z,u] t)) w') :
 w'.cell? ⟨w.heap.size,0,none⟩=some x∧w'.cell? ⟨w.heap.size,1,none⟩=some y∧w'.cell? ⟨w.heap.size,2,none⟩=some z∧w'.cell? ⟨w.heap.size,3,none⟩=some u:=by
 have hg:=heap_alloc_new w (.cells #[x,y,z,u] t);exact⟨(hb.cell (p:=⟨w.heap.size,0,none⟩) (Nat.lt_succ_self _)).trans (cell_of_row _ _ 0 _ _ _ hg),(hb.cell (p:=⟨w.heap.size,1,none⟩) (Nat.lt_succ_self _)).trans (cell_of_row _ _ 1 _ _ _ hg),(hb.cell (p:=⟨w.heap.size,2,none⟩) (Nat.lt_succ_self _)).trans (cell_of_row _ _ 2 _ _ _ hg),(hb.cell (p:=⟨w.heap.size,3,none⟩) (Nat.lt_succ_self _)).trans (cell_of_row _ _ 3 _ _ _ hg)⟩
set_option maxHeartbeats 8000000 in
theorem YnD{W w:World}{fv:Value}{F:PFunc}(hU:Uni W)(hF:FnV W W.heap.size fv F)(hW:Below W.heap.size W w)(hS:YU F)(hT:Yd F=true) :
 Calls Tryz.prog 53 #[fv] w fun e w'=>∃v,e=.returned (.tuple #[v,.int .i64 0])∧TreeV w' w'.heap.size v F.blocks.length (OR F) (PR F)∧Below w.heap.size w w':=by
 have hor:=fun(w:World) (h:Below W.heap.size W w)=>Ynv hU hF h hS hT
 have hpr:=fun(w:World) (h:Below W.heap.size W w)=>Ynw hU hF h hS hT
 obtain⟨n1,n2⟩:=Y1 (Yx hT);have hWs:=hW.size;obtain⟨A0,c0,A1,c1,A2,c2,rfl,l0,l1,l2,-⟩:=id hF.open_;unfold Len at *;have hb0:=(Br w.heap.size w).alloc (Nr _) (.cells #[.slice A0 F.vars.length c0,.slice A1 F.params.length c1,.slice A2 F.blocks.length c2] 26);have G:=Lh (YdP hT);have hpl:(YaO F).length=F.blocks.length:=Yc3 _;have hil:(Yf (postO F).reverse).length=(OR F).length:=by simp[Yf,OR]
 have hol:=Ymw hT;have ho0:0<(OR F).length:=by obtain⟨r,hr⟩:=(YdP hT).hd;rw[hr];simp
 have HPR:=Lh (fun b (hb:b<F.blocks.length)=>Ymu hT hb);have HPL:=Lh (fun b=>show(PR F b).length≤64 from Nat.le_trans (Ymv b) n2);have hoe:(((OR F).length:Int)==0)=false:=by rw[beq_eq_false_iff_ne];omega
 obtain⟨ib,hib,hz0,hz1,hz2⟩:=info_parts Tryz.info23;clear hT hS;go_enter Tryz.func53,Tryz.ntmps53;go_wp2_with fail;refine(hor _ BL).mono ?_;rintro e w5 ⟨A5,c5,rfl,l5,k5,r5,hb5⟩;rw[hil]at k5 l5;rw[hil];replace r5:Rd w5.heap.size A5 (Yf (OR F)) 1 (Yk w5):=r5;have hX5:Below (w.heap.size+1) (w.alloc (.cells #[.slice A0 F.vars.length c0,.slice A1 F.params.length c1,.slice A2 F.blocks.length c2] 26)) w5:=by simpa using hb5
 obtain⟨hq,hq0,hq1,hq2⟩:=Yn hX5;have hB5:Below w.heap.size w w5:=BL;go_wp2_with fail;obtain⟨S0,hS0⟩:∃S0:World→Prop,S0=fun w'=>w'.cell? ⟨w.heap.size,0,none⟩=some (.slice A0 F.vars.length c0)∧w'.cell? ⟨w.heap.size,1,none⟩=some (.slice A1 F.params.length c1)∧w'.cell? ⟨w.heap.size,2,none⟩=some (.slice A2 F.blocks.length c2)∧Below w5.heap.size w5 w'∧w.heap.size<w'.heap.size:=⟨_,rfl⟩
 have HS0:=Lh hS0;clear hS0;have k0:=fun xw=>(WS.at HS0 xw).1
 have k1:=fun xw=>(WS.at HS0 xw).2.1
 have k2:=fun xw=>(WS.at HS0 xw).2.2.1
 have k3:=fun xw=>(WS.at HS0 xw).2.2.2.1
 have k4:=fun xw=>(WS.at HS0 xw).2.2.2.2
 refine Yz (S:=S0) [0,1,2,3,4,5,6] ZK ZK (fun _ _ _ _ _ h=>h) ?hS (fun hSc=>?_)
 case hS=>
  rw[HS0.out];exact⟨ZI,ZI,ZI,BL,ZJ⟩
 have hne0:Nonempty (WS S0):=⟨⟨_,hSc⟩⟩;simp only[List.map_cons,List.map_nil,Ld,Le]
 repeat
  first
  |((with_reducible refine YA ?_ ?_);exact rfl;go_big_quiet_step (fail);(try with_reducible refine wpQuiet_nil ?_);(try dsimp only))
  |((with_reducible refine YF ?_ ?_ (fun K hK=>?_))
    exact rfl;exact rfl;go_simp;(try go_wp2_with(go_at_call 47;refine(hpr _ BL).mono ?_;rintro e w9 ⟨A6,c6,rfl,l9,k9,r9,hb9⟩;obtain⟨hc9,hf9⟩:=Ya hb9;have hz9:=hb9.size));refine hK.out _ _ ?hS (fun hSc=>?_)
    case hS=>
     first
     |exact hSc
     |(rw[HS0.out]at hSc ⊢;obtain⟨p0,p1,p2,p3,p4⟩:=hSc;exact⟨ZC0,ZC1,ZC2,(by first|exact p3.trans (hb9.mono (by have:=p3.size;first|omega|(simp at this ⊢;omega)))|exact BL),(by first|exact Nt p4 hb9.size|exact ZT)⟩)
    clear hK K)
 refine YB ?_;rw[HS0.out]at hSc;obtain⟨p0,p1,p2,p3,p4⟩:=hSc;clear hne0 HS0 k0 k1 k2 k3 k4;rw[hpl]at k9 l9;obtain⟨w6,rfl⟩:∃w6:World,w6=w9:=⟨_,rfl⟩;have hB6:Below w.heap.size w w6:=hB5.trans (p3.mono hB5.size);replace r5:Rd w6.heap.size A5 (Yf (OR F)) 1 (Yk w6):=r5.keep p3.size fun b o x hb hx=>by unfold Yk at *;rw[← hx];exact p3.cell (p:=⟨b,o,none⟩) hb
 have hne:=fun(w':World) (h:Below w6.heap.size w6 w')=>YlF (cp:=c6) h r5 k5 r9 HPR.out hpl G.out n1 n2 (Nat.le_trans hol n2) HPL.out
 obtain⟨bo,oo,rfl,hbo,hOc⟩:=r5.first (by rw[show(Yf (OR F)).length=(OR F).length by simp[Yf]];exact ho0);replace hOc:∀j,j+1<(OR F).length→w6.cell? ⟨bo,oo+(j+1),none⟩=some (.int .i64 (((OR F).getD (j+1) 0:Nat):Int)):=fun j hj=>by
  rw[hOc (j+1) (by simpa[Yf]using hj)];simp[ith,Yf,List.getD,hj]
 replace hOc:=Lh hOc;clear hc9 hf9 hb9 hX5 hor hpr;go_wp2_with fail;refine Yhw ZK (fun a0 f a wr=>∃v22 v23 v24 v25 v26 v27 v28 v29 v30 v31 v32 v33 v34 v7:Value,a=((((((((((((((a0.put (some 22) v22).put (some 23) v23).put (some 24) v24).put (some 25) v25).put (some 26) v26).put (some 27) v27).put (some 28) v28).put (some 29) v29).put (some 30) v30).put (some 31) v31).put (some 32) v32).put (some 33) v33).put (some 34) v34).put (some 7) v7)∧NewW F.blocks.length (OR F) (PR F) (.slice (some ⟨bo,oo,none⟩) (OR F).length c5) (.slice A6 F.blocks.length c6) w6 f wr v22 v23 v24 v25 v26 v27 v28 v29 v30 v31 v32 v33 v34 v7) ZK ⟨undef,undef,undef,undef,undef,undef,undef,undef,undef,undef,undef,undef,undef,undef,?_,NewW.start⟩ ?step ?fin
 · simp only[Act.put,La,Lz,Lc]
 case step=>
  intro f i o a1 w1 ho hf hd hI K hK;obtain⟨v22,v23,v24,v25,v26,v27,v28,v29,v30,v31,v32,v33,v34,v7,rfl,h⟩:=hI;have hd':∀j,(o.after.any fun e=>Region.binds .any e&&e.on==j)=true→f j=true:=fun j hj=>by
   obtain⟨e,he,h2⟩:=Array.any_eq_true'.1 hj;rw[Bool.and_eq_true,beq_iff_eq]at h2;have:=hd e he h2.1
   rwa [h2.2]at this
  clear hd
  match i,hf,ho,hd' with
  |0,hf,ho,hd'=>
   obtain rfl:=Option.some.inj ho;simp only[Act.put,La,Lz,Lc];go_simp
   try go_wp2
   refine hK.out _ _ ⟨_,_,_,_,_,_,_,_,_,_,_,_,_,_,?_,h.s0 (Br _ _) hf rfl⟩;simp only[Act.put,La,Lz,Lc]
  |1,hf,ho,hd'=>
   obtain rfl:=Option.some.inj ho;simp only[Act.put,La,Lz,Lc];go_simp
   try go_wp2
   refine hK.out _ _ ⟨_,_,_,_,_,_,_,_,_,_,_,_,_,_,?_,h.s1 (Br _ _) hf rfl⟩;simp only[Act.put,La,Lz,Lc]
  |2,hf,ho,hd'=>
   obtain rfl:=Option.some.inj ho;simp only[Act.put,La,Lz,Lc];go_simp
   try go_wp2
   refine hK.out _ _ ⟨_,_,_,_,_,_,_,_,_,_,_,_,_,_,?_,h.s2 (Br _ _) hf rfl⟩;simp only[Act.put,La,Lz,Lc]
  |3,hf,ho,hd'=>
   obtain rfl:=Option.some.inj ho;have f0:f 0=true:=hd' 0 ZK;have f1:f 1=true:=hd' 1 ZK;have f2:f 2=true:=hd' 2 ZK;simp only[Act.put,La,Lz,Lc];obtain rfl:=h.e0 f0;obtain rfl:=h.e1 f1;obtain rfl:=h.e2 f2;go_simp;go_wp2_with(go_at_call 93;refine(hne _ h.hb).mono ?_;rintro e w9 ⟨g9,rfl,L9,HL9,ho9,hb9⟩);refine hK.out _ _ ⟨_,_,_,_,_,_,_,_,_,_,_,_,_,_,?_,h.s3 hb9 hf ⟨g9,rfl,(ho9.lt _ rfl).1,L9,HL9,Yc4 ho9 h.hb.size⟩⟩;simp only[Act.put,La,Lz,Lc]
  |4,hf,ho,hd'=>
   obtain rfl:=Option.some.inj ho;simp only[Act.put,La,Lz,Lc];go_simp
   try go_wp2
   refine hK.out _ _ ⟨_,_,_,_,_,_,_,_,_,_,_,_,_,_,?_,h.s4 ((Br _ _).alloc (Nr _) _) hf ⟨_,rfl,ZS,cell_of_row _ _ 0 _ _ _ (heap_alloc_new _ _)⟩⟩;simp only[Act.put,La,Lz,Lc]
  |5,hf,ho,hd'=>
   obtain rfl:=Option.some.inj ho;simp only[Act.put,La,Lz,Lc];go_simp
   try go_wp2
   refine hK.out _ _ ⟨_,_,_,_,_,_,_,_,_,_,_,_,_,_,?_,h.s5 (Br _ _) hf rfl⟩;simp only[Act.put,La,Lz,Lc]
  |6,hf,ho,hd'=>
   obtain rfl:=Option.some.inj ho;have f3:f 3=true:=hd' 3 ZK;have f4:f 4=true:=hd' 4 ZK;have f5:f 5=true:=hd' 5 ZK;simp only[Act.put,La,Lz,Lc];obtain⟨b4,rfl,hb4,hc4⟩:=h.e4 f4;obtain rfl:=h.e5 f5;go_simp;go_wp2_with(go_at_call 94;refine(YfC (x:=-1) hb4 hc4 n1 n2).mono ?_;rintro e w9 ⟨g9,rfl,ho9,hb9⟩);refine hK.out _ _ ⟨_,_,_,_,_,_,_,_,_,_,_,_,_,_,?_,h.s6 hb9 hf ⟨g9,rfl,(ho9.lt _ rfl).1,Yc4 ho9 h.hb.size⟩⟩;simp only[Act.put,La,Lz,Lc]
  |7,hf,ho,hd'=>
   obtain rfl:=Option.some.inj ho;simp only[Act.put,La,Lz,Lc];go_simp
   try go_wp2
   refine hK.out _ _ ⟨_,_,_,_,_,_,_,_,_,_,_,_,_,_,?_,h.s7 (Br _ _) hf rfl⟩;simp only[Act.put,La,Lz,Lc]
  |8,hf,ho,hd'=>
   obtain rfl:=Option.some.inj ho;have f7:f 7=true:=hd' 7 ZK;simp only[Act.put,La,Lz,Lc];obtain rfl:=h.e7 f7;obtain⟨w9,hrun,ho9,hg9⟩:=run_make_full (P:=Tryz.prog) w1 w1.heap.size 88 23 ib _ 1 Tryz.underlying88 hib hz0 hz1 .i64 .i64 F.blocks.length (by rw[hz2];omega) (by unfold maxLen;omega) (Nr _);have hb9:Below w1.heap.size w1 w9:=(Br _ _).grown hg9 (Nr _) (fun k hk=>by cases hk);rw[show(madeCells (Value.slice none 0 0).cells (F.blocks.length*1)).toList=List.replicate F.blocks.length (Value.slice none 0 0) by simp[Value.cells,toList_madeCells_one]]at ho9;go_simp;refine hK.out _ _ ⟨_,_,_,_,_,_,_,_,_,_,_,_,_,_,?_,h.s8 hb9 hf ⟨_,rfl,(ho9.lt _ rfl).1,Yc4 ho9 h.hb.size⟩⟩;simp only[Act.put,La,Lz,Lc]
  |9,hf,ho,hd'=>
   obtain rfl:=Option.some.inj ho;simp only[Act.put,La,Lz,Lc];go_simp
   try go_wp2
   refine hK.out _ _ ⟨_,_,_,_,_,_,_,_,_,_,_,_,_,_,?_,h.s9 (Br _ _) hf rfl⟩;simp only[Act.put,La,Lz,Lc]
  |10,hf,ho,hd'=>
   obtain rfl:=Option.some.inj ho;have f9:f 9=true:=hd' 9 ZK;simp only[Act.put,La,Lz,Lc];obtain rfl:=h.e9 f9;obtain⟨w9,hrun,ho9,hg9⟩:=run_make_full (P:=Tryz.prog) w1 w1.heap.size 88 23 ib _ 1 Tryz.underlying88 hib hz0 hz1 .i64 .i64 F.blocks.length (by rw[hz2];omega) (by unfold maxLen;omega) (Nr _);have hb9:Below w1.heap.size w1 w9:=(Br _ _).grown hg9 (Nr _) (fun k hk=>by cases hk);rw[show(madeCells (Value.slice none 0 0).cells (F.blocks.length*1)).toList=List.replicate F.blocks.length (Value.slice none 0 0) by simp[Value.cells,toList_madeCells_one]]at ho9;go_simp;refine hK.out _ _ ⟨_,_,_,_,_,_,_,_,_,_,_,_,_,_,?_,h.s10 hb9 hf ⟨_,rfl,(ho9.lt _ rfl).1,Yc4 ho9 h.hb.size⟩⟩;simp only[Act.put,La,Lz,Lc]
  |11,hf,ho,hd'=>
   obtain rfl:=Option.some.inj ho;have f3:f 3=true:=hd' 3 ZK;have f6:f 6=true:=hd' 6 ZK;have f8:f 8=true:=hd' 8 ZK;have f10:f 10=true:=hd' 10 ZK;simp only[Act.put,La,Lz,Lc];obtain⟨g3,rfl,-⟩:=h.e3 f3;obtain⟨g6,rfl,-⟩:=h.e6 f6;obtain⟨g8,rfl,-⟩:=h.e8 f8;obtain⟨g10,rfl,-⟩:=h.e10 f10;go_simp
   try go_wp2
   refine hK.out _ _ ⟨_,_,_,_,_,_,_,_,_,_,_,_,_,_,?_,h.s11 (Br _ _) hf ⟨⟨f3,f6,f8,f10⟩,rfl⟩⟩;simp only[Act.put,La,Lz,Lc]
  |12,hf,ho,hd'=>
   obtain rfl:=Option.some.inj ho;have f11:f 11=true:=hd' 11 ZK;simp only[Act.put,La,Lz,Lc];obtain⟨⟨f3,f6,f8,f10⟩,rfl⟩:=h.e11 f11;obtain⟨g3,rfl,-⟩:=h.e3 f3;obtain⟨g6,rfl,-⟩:=h.e6 f6;obtain⟨g8,rfl,-⟩:=h.e8 f8;obtain⟨g10,rfl,-⟩:=h.e10 f10;go_simp
   try go_wp2
   refine hK.out _ _ ⟨_,_,_,_,_,_,_,_,_,_,_,_,_,_,?_,h.s12 ((Br _ _).alloc (Nr _) _) hf ⟨f11,_,rfl,ZS,Nr _,YnC (Br _ _)⟩⟩;simp only[Act.put,La,Lz,Lc]
  |13,hf,ho,hd'=>
   obtain rfl:=Option.some.inj ho;have f12:f 12=true:=hd' 12 ZK;simp only[Act.put,La,Lz,Lc];go_simp
   try go_wp2
   refine hK.out _ _ ⟨_,_,_,_,_,_,_,_,_,_,_,_,_,_,?_,h.s13 (Br _ _) hf ⟨f12,rfl⟩⟩;simp only[Act.put,La,Lz,Lc]
  |n+14,_,ho,_=>cases ho
 case fin=>
  intro f a1 w1 hall hI;obtain⟨v22,v23,v24,v25,v26,v27,v28,v29,v30,v31,v32,v33,v34,v7,rfl,h⟩:=hI;simp only[Act.put,La,Lz,Lc];obtain⟨gn,rfl,L,HL,o3⟩:=h.e3 (hall 3 ZD);obtain⟨gl,rfl,o6⟩:=h.e6 (hall 6 ZD);obtain⟨gk,rfl,o8⟩:=h.e8 (hall 8 ZD);obtain⟨gf,rfl,o10⟩:=h.e10 (hall 10 ZD);obtain⟨-,tb,rfl,ht,htB,⟨q0,q1,q2,q3⟩,hlt⟩:=h.e12 (hall 12 ZD);obtain⟨-,rfl⟩:=h.e13 (hall 13 ZD);have d1:=h.d36 (hall 3 ZD) (hall 6 ZD) gn rfl;have d2:=h.d8a (hall 8 ZD) (hall 10 ZD) gk rfl;have hb1:=h.hb;have hdd:gn≠gl∧gn≠gk∧gn≠gf∧gn≠tb∧gl≠gk∧gl≠gf∧gl≠tb∧gk≠gf∧gk≠tb∧gf≠tb:=by
   have e1:=hlt gn (.inl rfl);have e2:=hlt gl (.inr (.inl rfl));have e3:=hlt gk (.inr (.inr (.inl rfl)));have e4:=hlt gf (.inr (.inr (.inr rfl)));have n1:gn≠gk:=fun e=>Y5 o3 o8 ZD (g:=gn) rfl (by rw[e];rfl)
   have n2:gn≠gf:=fun e=>Y5 o3 o10 ZD (g:=gn) rfl (by rw[e];rfl)
   have n3:gl≠gk:=fun e=>Y5 o6 o8 ZD (g:=gl) rfl (by rw[e];rfl)
   have n4:gl≠gf:=fun e=>Y5 o6 o10 ZD (g:=gl) rfl (by rw[e];rfl)
   exact⟨fun e=>d1 (by rw[e];rfl),n1,n2,ZO,n3,n4,ZO,fun e=>d2 (by rw[e];rfl),ZO,ZO⟩
  have T0:T1 w6 w1 F.blocks.length gn gl gk gf tb (L.set 0 none) (List.replicate F.blocks.length none) (List.replicate F.blocks.length []):=
   ⟨hb1,RowO.of_own o3 (by rw[List.length_set];exact HL.out.len),by simpa[YaN,YN]using o6,by simpa using OwnRows.made (av:=avT gn gl gf tb) o8,o10,ht,q0,q1,q2,q3,hdd⟩
  obtain⟨L0,hL0⟩:∃L0,L0=L.set 0 none:=⟨_,rfl⟩;rw[← hL0]at T0;have HL0:=Lh hL0;have hL0n:L0.length=F.blocks.length:=by rw[hL0,List.length_set];exact HL.out.len
  have T1':=Lh (T0.setL (i:=0) (o:=some 0));have hgl:=(o6.lt _ rfl).2;have hfz:=o6.frozenAt 0;have hc0:=YbS (L:=List.replicate F.blocks.length none) (by simpa[YaN,YN]using o6) ZS (show 0<F.blocks.length from ZO);have hgt:gl≠tb:=hdd.2.2.2.2.2.2.1;have hgt':tb≠gl:=fun e=>hgt e.symm
  clear hall h o3 o6 o8 o10 d1 d2 hb1 T0 hdd hlt htB hL0 q0 q2 q3;go_wp2_with(refine YlX rfl _ _ rfl _ Tryz.underlying23 ZK bo oo _ _ rfl ZO k5 ?_;intro X5 hX5)
  go_loopw[43] (fun i wr=>∃(j:Nat) (V:List (Option Nat)),i=.int .i64 j∧j+1≤(OR F).length∧Hid (LvP (OR F) F.blocks.length (fnO L) j V)∧T1 w6 wr F.blocks.length gn gl gk gf tb L0 V (List.replicate F.blocks.length [])) (fun i _=>(OR F).length-(intOf i).toNat)
  case atStart=>exact⟨0,_,rfl,ZO,LvP.start G.out n1,T1'.out⟩
  case round=>as_aux_lemma=>
   clear hc0 hfz hgl ht q1;obtain⟨j,V,rfl,hj,HV,hI⟩:=hrel
   by_cases hjl:j+1<(OR F).length
   ·
    obtain rfl:=hX5 ZO;have hWr:Below w6.heap.size w6 wr:=hI.hb;have hc:=(hWr.cell (p:=⟨bo,oo+(j+1),none⟩) hbo).trans (hOc.out j hjl);rw[show oo+(j+1)=oo+1+j from ZO]at hc;have hbo':=Nt hbo hWr.size;have hjl2:j<(OR F).length-1:=by omega
    have hjl3:(j:Int)<(((OR F).length-1:Nat):Int):=by omega
    obtain⟨hbn,hb0',p,i,hp,hpn,hVp,hil,hV2⟩:=HV.out.turn G.out HL.out hjl rfl;generalize (OR F).getD (j+1) 0=b at *;have hnb:fnO L0 b=some p:=by rw[HL0.out,Yaz hb0'];exact hp
    have hc0:=hI.hn.at_ ZO hnb;have hcp:=(RowO.of_own hI.hl HV.out.len).at_ (by rw[HV.out.len];exact hpn) hVp;have hcb:=YbS hI.hl HV.out.len hbn;have hpb:p≠b:=fun e=>by
     have:=(HL.out.tok.up hb0' hp).2.2.1;rw[e]at this;omega
    have hpb':b≠p:=fun e=>hpb e.symm
    have hfz:=hI.hl.frozenAt b;have hgl:=(hI.hl.lt _ rfl).2;have hgn:=hI.hn.1;have q0:=hI.c0;have q1:=hI.c1;have ht:=hI.ht;have hgt:gl≠tb:=hI.d.2.2.2.2.2.2.1;have hgt':tb≠gl:=fun e=>hgt e.symm
    have hgg:gn≠gl:=hI.d.1;have hgg':gl≠gn:=fun e=>hgg e.symm
    have hwr:wrap64 ((i:Int)+1)=((i+1:Nat):Int):=by unfold wrap64;omega
    have HS:=Lh (hI.setL (i:=b) (o:=some (i+1)));have HV2:=Lh hV2;clear hV2 hVp hp hnb;go_wp2_with fail;obtain⟨S0,hS0⟩:∃S0:World→Prop,S0=fun w'=>w'.cell? ⟨tb,0,none⟩=some (.slice (some ⟨gn,0,none⟩) F.blocks.length F.blocks.length)∧w'.cell? ⟨tb,1,none⟩=some (.slice (some ⟨gl,0,none⟩) F.blocks.length F.blocks.length)∧w'.cell? ⟨gn,b,none⟩=some (.int .i64 (p:Int))∧w'.cell? ⟨gl,p,none⟩=some (.int .i64 (i:Int))∧tb<w'.heap.size∧gn<w'.heap.size∧gl<w'.heap.size:=⟨_,rfl⟩
    have HS0:=Lh hS0;clear hS0;have k0:=fun xw=>(WS.at HS0 xw).1
    have k1:=fun xw=>(WS.at HS0 xw).2.1
    have k2:=fun xw=>(WS.at HS0 xw).2.2.1
    have k3:=fun xw=>(WS.at HS0 xw).2.2.2.1
    have k4:=fun xw=>(WS.at HS0 xw).2.2.2.2.1
    have k5:=fun xw=>(WS.at HS0 xw).2.2.2.2.2.1
    have k6:=fun xw=>(WS.at HS0 xw).2.2.2.2.2.2
    refine Yz (S:=S0) [0,1,2,3,4,5,6,7,8,9,10,11,12,13,14,15,16,17,18,19,20] ZK ZK (fun _ _ _ _ _ h=>h) ?hS (fun hSc=>?_)
    case hS=>
     rw[HS0.out];exact⟨ZI,ZI,ZI,ZI,ZJ,ZJ,ZJ⟩
    have hne0:Nonempty (WS S0):=⟨⟨_,hSc⟩⟩;simp only[List.map_cons,List.map_nil,Ld,Le]
    repeat
     first
     |((with_reducible refine YA ?_ ?_);exact rfl;go_big_quiet_step (fail);(try with_reducible refine wpQuiet_nil ?_);(try dsimp only))
     |((with_reducible refine YF ?_ ?_ (fun K hK=>?_))
       exact rfl;exact rfl;go_simp;(try go_wp2_with(fail));refine hK.out _ _ ?hS (fun hSc=>?_)
       case hS=>
        first
        |exact hSc
        |(rw[HS0.out]at hSc ⊢;obtain⟨p0,p1,p2,p3,p4,p5,p6⟩:=hSc;exact⟨ZC,ZC,ZC,ZC,ZT,ZT,ZT⟩)
       clear hK K)
    refine YB ?_;rw[HS0.out]at hSc;obtain⟨p0,p1,p2,p3,p4,p5,p6⟩:=hSc;clear hne0 HS0 k0 k1 k2 k3 k4 k5 k6;go_wp2;go_roundw
    case rel=>exact⟨j+1,_,ZN,ZO,HV2.out,HS.out.below ((Br _ _).drew)⟩
    case measure=>simp[intOf];omega
   · have hje:j=(OR F).length-1:=by omega
     rw[hje]at HV;have HLv:=Lh (HV.out.fin G.out);have hVn:=HV.out.len;have hjl4:¬j<(OR F).length-1:=by omega
     have hjl5:¬(j:Int)<(((OR F).length-1:Nat):Int):=by omega
     clear HV hje;go_wp2
     go_loopw[69] (fun i wr=>∃b:Nat,i=.int .i64 b∧b≤F.blocks.length∧T1 w6 wr F.blocks.length gn gl gk gf tb L0 V (Y7 L0 b)) (fun i _=>F.blocks.length-(intOf i).toNat)
     case atStart=>exact⟨0,rfl,Nz _,by rw[Y7,hL0n];exact hI⟩
     case round=>as_aux_lemma=>
      clear hI;obtain⟨b,rfl,hb,hI⟩:=hrel;have ht:=hI.ht;have q0:=hI.c0;have q1:=hI.c1;have q2:=hI.c2;have q3:=hI.c3;have hgn:=hI.hn.1;have hgk:=hI.hk.blk
      by_cases hbl:b<F.blocks.length
      · have hbl3:(b:Int)<(F.blocks.length:Int):=by omega
        have hcn:=hI.hn.2 b ZO;cases hp:fnO L0 b with
        |none=>
         rw[hp]at hcn;replace hcn:wr.cell? ⟨gn,b,none⟩=some (.int .i64 (-1)):=hcn;have HS:=Lh (show Y7 L0 (b+1)=Y7 L0 b by rw[Y7,hp]);clear hp;go_wp2;go_roundw
         case rel=>exact⟨b+1,ZN,ZO,by rw[HS.out];exact hI⟩
         case measure=>simp[intOf];omega
        |some p=>
         rw[hp]at hcn;replace hcn:wr.cell? ⟨gn,b,none⟩=some (.int .i64 (p:Int)):=hcn;have hpm:((p:Int) !=-1)=true:=by rw[bne_iff_ne];omega
         have hpn:p<F.blocks.length:=by
          have hb0:b≠0:=fun e=>by rw[e,HL0.out,Yhr (by rw[HL.out.len];omega)]at hp;cases hp
          rw[HL0.out,Yaz hb0]at hp;exact G.out.lt p (HL.out.tok.up hb0 hp).2.1
         have HS:=Lh (show Y7 L0 (b+1)=Y2 b (Y7 L0 b) p by rw[Y7,hp]);have hKn:(Y7 L0 b).length=F.blocks.length:=by rw[Ycy,hL0n]
         have hKl:((Y7 L0 b).getD p []).length≤b:=by rw[YfH ZO];simpa[Yf]using YfI b
         have hI':=hI.below ((Br wr.heap.size wr).drew);obtain⟨v,hcv,hown⟩:=hI'.hk.at_ (c:=p) ZO;obtain⟨Av,cv,rfl⟩:=Yp hown;obtain⟨v',w3,hrun,hown3,hg3,hfr3⟩:=Yhq (P:=Tryz.prog) (ty:=23) wr.drew w6.heap.size 3 8 Tryz.underlying23 Tryz.info3 rfl _ _ _ hown (.int .i64 (b:Int)) rfl ZO ZD hI'.hb.size;obtain⟨hT3,hm1,hm2,hm3,hm4,hm5⟩:=hI'.addK hKn hpn hcv hown3 hg3 hfr3;obtain⟨Av',cv',rfl⟩:=Yp hown3;replace hrun:(Builtin.append_ #[23,23] 23 #[.slice Av ((Y7 L0 b).getD p []).length cv,.slice (some ⟨wr.heap.size,0,none⟩) 1 1]).run Tryz.prog (wr.alloc (.cells #[.int .i64 (b:Int)] 3)).drew=.ok (.slice Av' (((Y7 L0 b).getD p []).length+1) cv') w3:=hrun;have HT3:=Lh hT3;have hgkl:=hgk.2;have hgt:gk≠tb:=hI.d.2.2.2.2.2.2.2.2.1;have hgt':tb≠gk:=fun e=>hgt e.symm
         generalize ((Y7 L0 b).getD p []).length=m at *;clear hT3 hown3 hg3 hfr3 hp hown hI';replace hcv:wr.cell? ⟨gk,p,none⟩=some (.slice Av m cv):=hcv;go_wp2_with fail;obtain⟨S0,hS0⟩:∃S0:World→Prop,S0=fun w'=>w'.cell? ⟨tb,2,none⟩=some (.slice (some ⟨gk,0,none⟩) F.blocks.length F.blocks.length)∧w'.cell? ⟨gk,p,none⟩=some (.slice Av m cv)∧tb<w'.heap.size∧gk<w'.heap.size:=⟨_,rfl⟩
         have HS0:=Lh hS0;clear hS0;have k0:=fun xw=>(WS.at HS0 xw).1
         have k1:=fun xw=>(WS.at HS0 xw).2.1
         have k2:=fun xw=>(WS.at HS0 xw).2.2.1
         have k3:=fun xw=>(WS.at HS0 xw).2.2.2
         refine Yb0 (S:=S0) [16] ZK ?hS (fun hSc hcl=>?_)
         case hS=>
          rw[HS0.out];exact⟨ZI,ZI,ZJ,ZJ⟩
         have hne0:Nonempty (WS S0):=⟨⟨_,hSc⟩⟩;have hneT:Nonempty (WS (fun _=>True)):=match hne0 with|⟨x⟩=>⟨⟨x.w,trivial⟩⟩
         refine Ya5 [(0,0),(1,0),(2,0),(3,0),(4,0),(5,0),(6,0),(7,0),(8,0),(9,0),(10,0),(11,0),(12,0),(13,1),(14,1),(15,0)] 1 rfl ZK (fun _ _ _ _ _ h=>h) hSc hcl ?_
         all_goals
          (try simp only[List.map_cons,List.map_nil,Ld,Le])
          repeat
           first
           |((with_reducible refine Ya6 ?_ ?_);exact rfl;dsimp only;go_big_quiet_step (fail);(try with_reducible refine wpQuiet_nil ?_);(try dsimp only))
           |((with_reducible refine Ya7 ?_ ?_);exact rfl;dsimp only;go_big_quiet_step (fail);(try with_reducible refine wpQuiet_nil ?_);(try dsimp only))
           |((with_reducible refine Ybe ?_ ?_ (fun K hK=>?_))
             exact rfl;exact rfl;dsimp only
             first
             |(refine Yc5 _ _ _ rfl rfl rfl hrun ?_;simp only[Act.put,La,Lz,Lc])
             |(go_simp)
             refine hK.out _ _ ?hS (fun hSc=>?_)
             case hS=>
              first
              |exact hSc
              |(rw[HS0.out]at hSc ⊢;obtain⟨p0,p1,p2,p3⟩:=hSc;exact⟨ZC0,ZC1,ZT2,ZT3⟩)
             clear hK K)
          (try(refine Ya8 ?_;intro hSc hcl))
         all_goals
          refine Yb1 [16] rfl ZK ?_;simp only[List.map_cons,List.map_nil,Ld,Le];rw[HS0.out]at hSc;obtain⟨p0,p1,p2,p3⟩:=hSc;clear hne0 hneT hcl HS0 k0 k1 k2 k3;go_wp2;go_roundw
          (case rel=>exact⟨b+1,ZN,ZO,by rw[HS.out];exact HT3.out⟩)
          (case measure=>simp[intOf];omega)
      · obtain rfl:b=F.blocks.length:=by omega
        have hbl4:¬((F.blocks.length:Nat):Int)<(F.blocks.length:Int):=by omega
        obtain⟨d1,d2,d3,d4,d5,d6,d7,d8,d9,d10⟩:=hI.d;have hgf:=hI.hf.lt gf rfl;have hfr:=Ynn (cp:=c6) (co:=c5) hI.hb hgf.1 hgf.2 G.out n2 (Nat.le_trans hol n2) HL.out HLv.out hVn HL0.out hbo r5 r9 HPR.out hpl HPL.out hI.ht (fun e=>d10 e.symm) hI.c0 hI.c1 hI.c2 hI.c3 hI.hn d3 ⟨(hI.hl.lt _ rfl).2,fun i hi=>YbS hI.hl hVn ZO⟩ d6 hI.hb.size hI.hf;clear q0 q1 q2 q3;go_wp2_with fail;refine hfr.mono ?_;rintro e w9 ⟨rfl,X,rfl,hT2⟩;go_wp2
        go_ret2
        have htf:tb≠gf:=fun e=>d10 e.symm
        have hB9:Below w.heap.size w w9:=hB6.trans ((hI.hb.trans (hT2.o.hb.mono hgf.1)).mono hB6.size);have hV9:=hT2.o.rowO (r:=gl) (L:=V) ⟨(hI.hl.lt _ rfl).2,fun i hi=>YbS hI.hl hVn ZO⟩ d6;have hN9:=hT2.o.rowO hI.hn d3;have hK9:=hI.hk.only hT2.o (.inr (.inr (.inl rfl))) d8;rw[Yni,hL0n]at hK9;refine⟨_,rfl,⟨tb,gn,gl,gk,gf,L,V,rfl,Nt hI.ht hT2.o.hb.size,HL.out,HLv.out,hVn,(hT2.o.cell hI.ht htf).trans hI.c0,(hT2.o.cell hI.ht htf).trans hI.c1,(hT2.o.cell hI.ht htf).trans hI.c2,(hT2.o.cell hI.ht htf).trans hI.c3,hN9.1,hV9.1,fun i hi=>?_,fun i hi=>hV9.2 i ZO,?_,?_⟩,hB9⟩
        · rw[← HL0.out];exact hN9.2 i ZO
        · rw[← HL0.out]
          refine hK9.rd ZX (fun xs hx=>?_);obtain⟨x,_,rfl⟩:=List.mem_map.1 hx;have:=YfI (L0:=L0) (p:=x) F.blocks.length;simp[Yf];omega
        · rw[← HL0.out]
          refine hT2.x.rd ZX (fun xs hx=>?_);obtain⟨x,_,rfl⟩:=List.mem_map.1 hx;have:(YbE F.blocks.length (SF (OR F) (PR F) L0 (fnO L) (OR F)) x).length≤F.blocks.length:=Nat.le_trans (List.length_filter_le _ _) ZS;simp[Yf];omega
theorem YqT{W w:World}{fv:Value}{F:PFunc}(hU:Uni W)(hF:FnV W W.heap.size fv F)(hW:Below W.heap.size W w)(hS:YU F)(hT:Yd F=false) :
 Calls Tryz.prog 53 #[fv] w fun e w'=>e=.returned (.tuple #[.pointer none,.int .i64 3])∧Below w.heap.size w w':=by
 have hor:=fun(w:World) (h:Below W.heap.size W w)=>Ynu hU hF h hS hT
 have hWs:=hW.size;obtain⟨A0,c0,A1,c1,A2,c2,rfl,-⟩:=id hF.open_;clear hT;go_enter Tryz.func53,Tryz.ntmps53;go_wp2_with fail;refine(hor _ BL).mono ?_;rintro e w5 ⟨A5,c5,rfl,l5,k5,r5,hb5⟩;go_wp2
 go_ret2
 exact⟨rfl,BL⟩
def Ydh(F:PFunc)(a b:Nat):Prop:=a∈OR F∧b∈OR F∧(a=b∨¬YaZ (fun x y=>x∈PR F y) a b)
theorem YnE{F:PFunc}(h:Yd F=true){a:Nat}{b:Nat}(hp:YbF (RF F (a:Int)) 0 b):YaZ (fun x y=>x∈PR F y) a b:=by
 have key:∀{x y},RF F (a:Int) x y→x∈PR F y∧y≠a∧x≠a:=fun {x y} hr=>⟨(YdO h).2 ⟨hr.1,(Ybg h hr.1).2 hr.2.2.2.2⟩,by have:=hr.2.2.2.1;omega,by have:=hr.2.2.1;omega⟩
 induction hp with
 |one hr=>exact .step (.start (fun e=>(key hr).2.2 e.symm)) (key hr).1 (key hr).2.1
 |more _ hr ih=>exact .step ih (key hr).1 (key hr).2.1
theorem YiA{F:PFunc}(h:Yd F=true){a b:Nat}(hA:YaZ (fun x y=>x∈PR F y) a b):a≠0∧b≠a∧(b=0∨YbF (RF F (a:Int)) 0 b):=by
 induction hA with
 |start h0=>exact⟨h0,fun e=>h0 e.symm,.inl rfl⟩
 |@step x y _ hp hy ih=>
  obtain⟨h0,hx,h1⟩:=ih;have hm:=(YdO h).1 hp;have hr:RF F (a:Int) x y:=⟨hm.1,Yc1 h hm.1 y hm.2,ZO,ZO,(Ybg h hm.1).1 hm.2⟩;refine⟨h0,hy,.inr ?_⟩;rcases h1 with rfl|h1
  · exact .one hr
  · exact .more h1 hr
theorem YiB{F:PFunc}(h:Yd F=true){a b:Nat}(hb:b<F.blocks.length):(((YaQ (RF F (a:Int)) F.blocks.length 0).set 0 (decide ((a:Int)≠0))).getD b false=true)↔YaZ (fun x y=>x∈PR F y) a b:=by
 have hn:=(Y1 (Yx h)).1
 by_cases h0:b=0
 · subst h0
   have:((YaQ (RF F (a:Int)) F.blocks.length 0).set 0 (decide ((a:Int)≠0))).getD 0 false=decide ((a:Int)≠0):=by
    have hl:0<(YaQ (RF F (a:Int)) F.blocks.length 0).length:=by rw[Yet];omega
    simp[List.getD,hl]
   rw[this,decide_eq_true_eq];constructor
   · exact fun e=>.start ZO
   · intro hA
     have:=(YiA h hA).1;omega
 · rw[List.getD,List.getElem?_set_ne (fun e=>h0 e.symm),← List.getD_eq_getElem?_getD,Yeu hb]
   constructor
   · exact YnE h
   · intro hA
     exact(YiA h hA).2.2.resolve_left h0
theorem YeG{F:PFunc}{b:Nat}(hb:b<F.blocks.length):(YW F.blocks.length (postO F).reverse).getD b false=true↔b∈OR F:=Yf0 hb
def YnF(w:World)(B:Nat)(v:Value)(n:Nat)(T:Nat→Nat→Bool):Prop:=∃b0 c,v=.slice (some ⟨b0,0,none⟩) n c∧n≤c∧b0<B∧∀a,a<n→∃b1,w.cell? ⟨b0,a,none⟩=some (.slice (some ⟨b1,0,none⟩) n n)∧b1<B∧∀x,x<n→w.cell? ⟨b1,x,none⟩=some (.bool (T a x))
open Classical in
noncomputable def tabB (F:PFunc) (a b:Nat):Bool:=decide (Ydh F a b)
open Classical in
theorem Ygi{F:PFunc}{a b:Nat}:tabB F a b=true↔Ydh F a b:=by unfold tabB;rw[decide_eq_true_eq]
theorem YnG{w:World}{B e n:Nat}{v:Value}{xs:List Value}(h:w.ownsRow B e 1 v n xs)(hn:1≤n):∃g cap,v=.slice (some ⟨g,0,none⟩) n cap∧g<w.heap.size∧n≤cap:=by
 obtain⟨m,rfl⟩:∃m,n=m+1:=⟨n-1,ZO⟩;obtain⟨g,cap,rfl,_,h2,h3,_⟩:=Ydu h;exact⟨g,cap,rfl,h2,h3⟩
noncomputable def Yaj (F:PFunc) (a b:Nat):List Bool:=(List.range F.blocks.length).map fun x=>decide (x<b)&&tabB F a x
theorem YqU{F:PFunc}{a b:Nat}:(Yaj F a b).length=F.blocks.length:=by simp[Yaj]
theorem YiC{F:PFunc}{a:Nat}:Yaj F a 0=List.replicate F.blocks.length false:=by
 refine List.ext_getElem (by simp[Yaj]) fun i h1 h2=>?_
 simp[Yaj]
theorem YnH{F:PFunc}{a b:Nat}:(Yaj F a b).set b (tabB F a b)=Yaj F a (b+1):=by
 refine List.ext_getElem (by simp[Yaj]) fun i h1 h2=>?_
 rw[List.getElem_set]
 by_cases e:b=i
 · subst e;simp[Yaj]
 · rw[if_neg e]
   have:(i<b)↔(i<b+1):=by omega
   simp[Yaj,this]
theorem YiD{F:PFunc}{a b:Nat}(ha:a∉OR F):Yaj F a b=List.replicate F.blocks.length false:=by
 refine List.ext_getElem (by simp[Yaj]) fun i h1 h2=>?_
 have:tabB F a i=false:=by unfold tabB;rw[decide_eq_false_iff_not];exact fun h=>ha h.1
 simp[Yaj,this]
def RowsT(F:PFunc)(wr:World)(B:Nat)(av:Nat)(vs:List Value):Prop:=∀k v,vs[k]?=some v→∃g,v=.slice (some ⟨g,0,none⟩) F.blocks.length F.blocks.length∧g<av∧wr.ownsRow B 4 1 v F.blocks.length ((Yaj F k F.blocks.length).map Value.bool)
theorem RowsT.below{F:PFunc}{wr w':World}{B av av':Nat}{vs:List Value}(h:RowsT F wr B av vs)(hb:Below wr.heap.size wr w')(ha:av≤av'):RowsT F w' B av' vs:=fun k v hv=>by
 obtain⟨g,h1,h2,h3⟩:=h k v hv;exact⟨g,h1,ZO,Yu h3 hb⟩
theorem RowsT.set{F:PFunc}{wr:World}{B av i:Nat}{vs:List Value}{u:Value}(h:RowsT F wr B av vs):RowsT F (wr.setCell ⟨av,i,none⟩ u) B av vs:=fun k v hv=>by
 obtain⟨g,h1,h2,h3⟩:=h k v hv;refine⟨g,h1,h2,ownsRow_setCell_other h3 (a:=⟨av,i,none⟩) (fun e=>?_) u⟩;subst h1;simp[Value.ownBlock]at e;omega
theorem Tryz.info62:(Tryz.prog.info? 62).map (fun i=>(i.zero,i.size,i.bytes))=some (some (.slice none 0 0),1,24):=by kernel_rfl
set_option maxHeartbeats 8000000 in
theorem YqV{W w:World}{fv:Value}{F:PFunc}(hF:FnV W W.heap.size fv F)(hW:Below W.heap.size W w)(hT:Yd F=true) :
 Calls Tryz.prog 58 #[fv] w fun e w'=>∃v,e=.returned v∧YnF w' w'.heap.size v F.blocks.length (tabB F)∧Below w.heap.size w w':=by
 obtain⟨n1,n2⟩:=Y1 (Yx hT);have hre:=fun(w:World) (h:Below W.heap.size W w) (r:Int)=>YfY hF h n1 n2 r
 have hr1:=fun(w:World) (h:Below W.heap.size W w)=>hre w h (-1)
 rw[← YhQ hT]at hr1;have HTH:=Lh (fun b (hb:b<F.blocks.length)=>YeG (F:=F) hb);have HLF:=Lh (fun a b (hb:b<F.blocks.length)=>YiB (a:=a) hT hb);have hml:(YW F.blocks.length (postO F).reverse).length=F.blocks.length:=YcD;obtain⟨th,hth⟩:∃th,YW F.blocks.length (postO F).reverse=th:=⟨_,rfl⟩;rw[hth]at hr1 HTH hml;have hLl:∀a:Nat,((YaQ (RF F (a:Int)) F.blocks.length 0).set 0 (decide ((a:Int)≠0))).length=F.blocks.length:=fun a=>by rw[List.length_set,Yet]
 have hWs:=hW.size;obtain⟨A0,c0,A1,c1,A2,c2,rfl,l0,l1,l2,-⟩:=id hF.open_;unfold Len at *;have hb0:=(Br w.heap.size w).alloc (Nr _) (.cells #[.slice A0 F.vars.length c0,.slice A1 F.params.length c1,.slice A2 F.blocks.length c2] 26);obtain⟨ib,hib,hz0,hz1,hz2⟩:=info_parts Tryz.info4;clear hT hth;go_enter Tryz.func58,Tryz.ntmps58;go_wp2_with fail;refine(hr1 _ (hW.trans (hb0.mono hWs))).mono ?_;rintro e w1 ⟨g3,rfl,o3,hb1⟩;have hX1:Below (w.heap.size+1) (w.alloc (.cells #[.slice A0 F.vars.length c0,.slice A1 F.params.length c1,.slice A2 F.blocks.length c2] 26)) w1:=by simpa using hb1
 obtain⟨hq,hq0,hq1,hq2⟩:=Yn hX1;have o3':=Yda o3 (B':=w.heap.size+1) ZS;clear o3;go_wp2
 go_loopw[4,14] (fun v4 i wr=>∃(a:Nat) (vs:List Value),i=.int .i64 a∧a≤F.blocks.length∧wr.ownsRow (w.heap.size+1) 62 1 v4 a vs∧RowsT F wr (w.heap.size+1) wr.heap.size vs∧
  wr.ownsRow (w.heap.size+1) 4 1 (.slice (some ⟨g3,0,none⟩) F.blocks.length F.blocks.length) F.blocks.length (th.map Value.bool)∧Below (w.heap.size+1) (w.alloc (.cells #[.slice A0 F.vars.length c0,.slice A1 F.params.length c1,.slice A2 F.blocks.length c2] 26)) wr) (fun _ i _=>F.blocks.length-(intOf i).toNat)
 case atStart=>exact⟨0,[],rfl,Nz _,World.ownsRow_nil _ _ _ _,fun k v hv=>by simp at hv,o3',hX1⟩
 case round=>as_aux_lemma=>
  clear hq hq0 hq1 hq2 o3' hX1;obtain⟨a,vs,rfl,ha,ho,hR,o3,hX⟩:=hrel;obtain⟨hq,hq0,hq1,hq2⟩:=Yn hX
  by_cases hal:a<F.blocks.length
  · have hal3:(a:Int)<(F.blocks.length:Int):=by omega
    obtain⟨wq,rfl⟩:∃wq:World,wq=wr:=⟨_,rfl⟩;have hg3:g3<wq.heap.size:=(o3.lt _ rfl).2;have hthr:=HTH.out a hal;have hzw:w.heap.size+1≤wq.heap.size:=by have:=hX.size;simpa using this
    have key:∀{v4:Value} {w5 w3:World} {v':Value} {rw:List Bool},Below wq.heap.size wq w5→wq.heap.size<w5.heap.size→w5.ownsRow (w.heap.size+1) 62 1 v4 a vs→RowsT F w5 (w.heap.size+1) wq.heap.size vs→
     w5.ownsRow (w.heap.size+1) 4 1 (.slice (some ⟨g3,0,none⟩) F.blocks.length F.blocks.length) F.blocks.length (th.map Value.bool)→w5.ownsRow (w.heap.size+1) 4 1 (.slice (some ⟨wq.heap.size,0,none⟩) F.blocks.length F.blocks.length) F.blocks.length (rw.map Value.bool)→rw=Yaj F a F.blocks.length→Below (w.heap.size+1) (w.alloc (.cells #[.slice A0 F.vars.length c0,.slice A1 F.params.length c1,.slice A2 F.blocks.length c2] 26)) w5→
     w3.ownsRow (w.heap.size+1) 62 1 v' (a+1) (vs++[.slice (some ⟨wq.heap.size,0,none⟩) F.blocks.length F.blocks.length])→(w5.alloc (.cells #[.slice (some ⟨wq.heap.size,0,none⟩) F.blocks.length F.blocks.length] 62)).grownBy w3 v4.ownBlock→
     RowsT F w3 (w.heap.size+1) w3.heap.size (vs++[.slice (some ⟨wq.heap.size,0,none⟩) F.blocks.length F.blocks.length])∧w3.ownsRow (w.heap.size+1) 4 1 (.slice (some ⟨g3,0,none⟩) F.blocks.length F.blocks.length) F.blocks.length (th.map Value.bool)∧Below (w.heap.size+1) (w.alloc (.cells #[.slice A0 F.vars.length c0,.slice A1 F.params.length c1,.slice A2 F.blocks.length c2] 26)) w3:=by
     intro v4 w5 w3 v' rw hb5 hl5 ho5 hR5 o35 or5 hrw hX5 hown3 hg3';have hal5:Below w5.heap.size w5 (w5.alloc (.cells #[.slice (some ⟨wq.heap.size,0,none⟩) F.blocks.length F.blocks.length] 62)):=(Br _ _).alloc (Nr _) _;have keep:∀{g:Nat} {xs:List Value},w5.ownsRow (w.heap.size+1) 4 1 (.slice (some ⟨g,0,none⟩) F.blocks.length F.blocks.length) F.blocks.length xs→w3.ownsRow (w.heap.size+1) 4 1 (.slice (some ⟨g,0,none⟩) F.blocks.length F.blocks.length) F.blocks.length xs:=
      fun h=>Yan h hal5 hg3' (fun b hb=>Y5 h ho5 ZD hb)
     have hsz:=hg3'.size;simp at hsz;refine⟨fun k v hv=>?_,keep o35,Ybl ho5 hg3' hX5 (Nr _) ZO⟩;have hvl:vs.length=a:=by simpa using ho5.1
     by_cases hk:k<vs.length
     · rw[List.getElem?_append_left hk]at hv
       obtain⟨g,h1,h2,h3⟩:=hR5 k v hv;subst h1;exact⟨g,rfl,ZO,keep h3⟩
     · have hk2:k=a:=by
        have:=(List.getElem?_eq_some_iff.1 hv).1;simp at this;omega
       subst hk2;rw[List.getElem?_append_right ZO]at hv;simp[hvl]at hv;subst hv;exact⟨wq.heap.size,rfl,ZO,by rw[← hrw];exact keep or5⟩
    replace key:=@Lh _ @key;have hthc:=YaR o3 hal;have hle:=hLl a;have hlfa:=fun b hb=>HLF.out a b hb
    have hre':=hre;obtain⟨A4,c4,rfl⟩:=Yp ho;obtain⟨ta,hta⟩:∃ta,th.getD a false=ta:=⟨_,rfl⟩;rw[hta]at hthc hthr;cases ta
    · have hna:a∉OR F:=fun h=>by have:=hthr.2 h;cases this
      have HNA:=Lh hna;clear hna hthr hta
      go_wp2_with(first
       |(at_make;refine wpList_make_full _ rfl _ _ 62 rfl (w.heap.size+1) 4 ib _ 1 Tryz.underlying62 hib hz0 hz1 _ _ _ _ _ rfl rfl rfl rfl (by rw[hz2];omega) (by unfold maxLen;omega) ZO ?_;intro w2 hs2 hg2
         have hb2:Below wq.heap.size wq w2:=(Br _ _).grown hg2 (Nr _) (fun k hk=>by cases hk);have o2:w2.ownsRow (w.heap.size+1) 4 1 (.slice (some ⟨wq.heap.size,0,none⟩) F.blocks.length F.blocks.length) F.blocks.length ((Yaj F a 0).map Value.bool):=by rw[YiC];simpa[Value.cells,toList_madeCells_one]using hs2
         have hl2:wq.heap.size<w2.heap.size:=(o2.lt _ rfl).2;have o32:=Yu o3 hb2;have ho2:=Yu ho hb2;have hR2:=hR.below hb2 (Nr _);have hX2:=hX.trans (hb2.mono hzw);have hc3:=(hb2.cell (p:=⟨g3,a,none⟩) hg3).trans hthc;have hg32:g3<w2.heap.size:=(o32.lt _ rfl).2
         clear hs2 hg2)
       |(at_builtin;refine YfD _ rfl _ _ 60 rfl (w.heap.size+1) 62 24 Tryz.underlying60 Tryz.info62 rfl _ _ _ rfl ho2 _ rfl _ rfl rfl ZO ZD ZO ?_;intro v' w3 hown3 hg3' hfr3;obtain⟨k1,k2,k3⟩:=key.out hb2 hl2 ho2 hR2 o32 o2 (by rw[YiD HNA.out,YiD HNA.out]) hX2 hown3 hg3'))
      go_roundw
      case rel=>exact⟨a+1,_,ZN,ZO,hown3,k1,k2,k3⟩
      case measure=>simp[intOf];omega
    · have HA:=Lh (hthr.1 rfl)
      clear hthr hta
      go_wp2_with(
       at_make;refine wpList_make_full _ rfl _ _ 62 rfl (w.heap.size+1) 4 ib _ 1 Tryz.underlying62 hib hz0 hz1 _ _ _ _ _ rfl rfl rfl rfl (by rw[hz2];omega) (by unfold maxLen;omega) ZO ?_;intro w2 hs2 hg2
       have hb2:Below wq.heap.size wq w2:=(Br _ _).grown hg2 (Nr _) (fun k hk=>by cases hk);have o2:w2.ownsRow (w.heap.size+1) 4 1 (.slice (some ⟨wq.heap.size,0,none⟩) F.blocks.length F.blocks.length) F.blocks.length ((Yaj F a 0).map Value.bool):=by rw[YiC];simpa[Value.cells,toList_madeCells_one]using hs2
       have hl2:wq.heap.size<w2.heap.size:=(o2.lt _ rfl).2;have o32:=Yu o3 hb2;have ho2:=Yu ho hb2;have hR2:=hR.below hb2 (Nr _);have hX2:=hX.trans (hb2.mono hzw);have hc3:=(hb2.cell (p:=⟨g3,a,none⟩) hg3).trans hthc;have hg32:g3<w2.heap.size:=(o32.lt _ rfl).2;obtain⟨p,p0,p1,p2⟩:=Yn hX2
       clear hs2 hg2)
      refine(hre' w2 (hW.trans ((hb0.trans (hX2.mono (Nat.le_succ _))).mono hWs)) a).mono ?_;rintro e w7 ⟨g7,rfl,o7,hb7⟩;have hz2:w2.heap.size≤w7.heap.size:=hb7.size;have hX7:=hX2.trans (hb7.mono ZO);have o37:=Yu o32 hb7;have ho7:=Yu ho2 hb7;have hR7:=hR2.below hb7 (Nr _);have o27:=Yu o2 hb7;have o77:=Yda o7 (B':=w.heap.size+1) ZO;have hg7:=o7.lt _ rfl;replace hg7:w2.heap.size≤g7∧g7<w7.heap.size:=hg7;obtain⟨lf,hlf⟩:∃lf,(YaQ (RF F (a:Int)) F.blocks.length 0).set 0 (decide ((a:Int)≠0))=lf:=⟨_,rfl⟩;rw[hlf]at hle hlfa o77;have HLA:=Lh hlfa;have hgr:g3≠wq.heap.size:=by omega
      have hgr7:g7≠wq.heap.size:=by omega
      have hb27:Below wq.heap.size wq w7:=hb2.trans (hb7.mono ZO);clear hlfa hlf hre hre' hr1 o7 o2 o32 ho2 hR2 hX2 hc3 hg32 p p0 p1 p2 hb7 hb2;go_wp2
      go_loopw[30] (fun i wr=>∃b:Nat,i=.int .i64 b∧b≤F.blocks.length∧wr.ownsRow (w.heap.size+1) 4 1 (.slice (some ⟨wq.heap.size,0,none⟩) F.blocks.length F.blocks.length) F.blocks.length ((Yaj F a b).map Value.bool)∧
       wr.ownsRow (w.heap.size+1) 62 1 (.slice A4 a c4) a vs∧RowsT F wr (w.heap.size+1) wq.heap.size vs∧wr.ownsRow (w.heap.size+1) 4 1 (.slice (some ⟨g3,0,none⟩) F.blocks.length F.blocks.length) F.blocks.length (th.map Value.bool)∧
       wr.ownsRow (w.heap.size+1) 4 1 (.slice (some ⟨g7,0,none⟩) F.blocks.length F.blocks.length) F.blocks.length (lf.map Value.bool)∧Below wq.heap.size wq wr) (fun i _=>F.blocks.length-(intOf i).toNat)
      case atStart=>exact⟨0,rfl,Nz _,o27,ho7,hR7,o37,o77,hb27⟩
      case round=>as_aux_lemma=>
       clear o27 ho7 hR7 o37 o77 hb27 hX7;obtain⟨b,rfl,hbn,o2,ho2,hR2,o3,o7,hb2⟩:=hrel;have hl2:wq.heap.size<wr.heap.size:=(o2.lt _ rfl).2;have hX2:=hX.trans (hb2.mono hzw)
       by_cases hbl:b<F.blocks.length
       · have hbl3:(b:Int)<(F.blocks.length:Int):=by omega
         have hc2:=YaR o2 hbl;have hc3:=YaR o3 hbl;have hc7:=YaR o7 hbl;have hg3w:g3<wr.heap.size:=(o3.lt _ rfl).2;have hg7w:g7<wr.heap.size:=(o7.lt _ rfl).2;have hfz:=o2.frozenAt b;have hset:∀z,tabB F a b=z→(wr.setCell ⟨wq.heap.size,b,none⟩ (.bool z)).ownsRow (w.heap.size+1) 4 1 (.slice (some ⟨wq.heap.size,0,none⟩) F.blocks.length F.blocks.length) F.blocks.length ((Yaj F a (b+1)).map Value.bool)∧
          (wr.setCell ⟨wq.heap.size,b,none⟩ (.bool z)).ownsRow (w.heap.size+1) 62 1 (.slice A4 a c4) a vs∧RowsT F (wr.setCell ⟨wq.heap.size,b,none⟩ (.bool z)) (w.heap.size+1) wq.heap.size vs∧(wr.setCell ⟨wq.heap.size,b,none⟩ (.bool z)).ownsRow (w.heap.size+1) 4 1 (.slice (some ⟨g3,0,none⟩) F.blocks.length F.blocks.length) F.blocks.length (th.map Value.bool)∧
          (wr.setCell ⟨wq.heap.size,b,none⟩ (.bool z)).ownsRow (w.heap.size+1) 4 1 (.slice (some ⟨g7,0,none⟩) F.blocks.length F.blocks.length) F.blocks.length (lf.map Value.bool)∧Below wq.heap.size wq (wr.setCell ⟨wq.heap.size,b,none⟩ (.bool z)):=by
          rintro z rfl;refine⟨?_,ownsRow_setCell_other ho2 (a:=⟨wq.heap.size,b,none⟩) (fun e=>Y5 o2 ho2 ZD rfl e) _,hR2.set,ownsRow_setCell_other o3 (a:=⟨wq.heap.size,b,none⟩) (by simpa[Value.ownBlock]using hgr) _,ownsRow_setCell_other o7 (a:=⟨wq.heap.size,b,none⟩) (by simpa[Value.ownBlock]using hgr7) _,hb2.setCell (p:=⟨wq.heap.size,b,none⟩) (Nr _) _⟩;rw[← YnH,← Yev];exact(o2.stored b _).1
         have htb:tabB F a b=(th.getD b false&&(decide (a=b)||!lf.getD b false)):=by
          rw[Bool.eq_iff_iff,Ygi];unfold Ydh;simp only[Bool.and_eq_true,Bool.or_eq_true,decide_eq_true_eq,Bool.not_eq_true'];rw[HTH.out b hbl];constructor
          · rintro⟨_,h2,h3|h3⟩
            · exact⟨h2,.inl h3⟩
            · refine⟨h2,.inr ?_⟩
              cases hx:lf.getD b false
              · rfl
              · exact absurd ((HLA.out b hbl).1 hx) h3
          · rintro⟨h2,h3|h3⟩
            · exact⟨HA.out,h2,.inl h3⟩
            · exact⟨HA.out,h2,.inr fun h4=>by rw[(HLA.out b hbl).2 h4]at h3;cases h3⟩
         obtain⟨tb,htb'⟩:∃x,th.getD b false=x:=⟨_,rfl⟩;obtain⟨lb,hlb'⟩:∃x,lf.getD b false=x:=⟨_,rfl⟩;rw[htb']at hc3 htb;rw[hlb']at hc7 htb;have HSET:=Lh hset;have HTB:=Lh htb;clear hset htb htb' hlb';cases tb
         · obtain⟨h1,h2,h3,h4,h5,h6⟩:=HSET.out false (by rw[HTB.out];rfl)
           go_wp2;go_roundw
           case rel=>exact⟨b+1,ZN,ZO,h1,h2,h3,h4,h5,h6⟩
           case measure=>simp[intOf];omega
         · by_cases hab:a=b
           · have e0:((a:Int)==(b:Int))=true:=by simp[hab]
             obtain⟨h1,h2,h3,h4,h5,h6⟩:=HSET.out true (by rw[HTB.out];simp[hab]);clear hab;go_wp2;go_roundw
             case rel=>exact⟨b+1,ZN,ZO,h1,h2,h3,h4,h5,h6⟩
             case measure=>simp[intOf];omega
           · have e0:((a:Int)==(b:Int))=false:=by rw[beq_eq_false_iff_ne];omega
             have HAB:=Lh hab;clear hab;cases lb
             · obtain⟨h1,h2,h3,h4,h5,h6⟩:=HSET.out true (by rw[HTB.out];simp)
               go_wp2;go_roundw
               case rel=>exact⟨b+1,ZN,ZO,h1,h2,h3,h4,h5,h6⟩
               case measure=>simp[intOf];omega
             · obtain⟨h1,h2,h3,h4,h5,h6⟩:=HSET.out false (by rw[HTB.out];simp[HAB.out])
               go_wp2;go_roundw
               case rel=>exact⟨b+1,ZN,ZO,h1,h2,h3,h4,h5,h6⟩
               case measure=>simp[intOf];omega
       · obtain rfl:b=F.blocks.length:=by omega
         go_wp2_with(at_builtin;refine YfD _ rfl _ _ 60 rfl (w.heap.size+1) 62 24 Tryz.underlying60 Tryz.info62 rfl _ _ _ rfl ho2 _ rfl _ rfl rfl ZO ZD ZO ?_;intro v' w3 hown3 hg3' hfr3;obtain⟨k1,k2,k3⟩:=key.out hb2 hl2 ho2 hR2 o3 o2 rfl hX2 hown3 hg3');go_roundw
         case rel=>exact⟨a+1,_,ZN,ZO,hown3,k1,k2,k3⟩
         case measure=>simp[intOf];omega
  · obtain rfl:a=F.blocks.length:=by omega
    have hvl:vs.length=F.blocks.length:=by simpa using ho.1
    obtain⟨g4,cap4,rfl,hg4l,hcap⟩:=YnG ho n1;go_wp2;go_ret;refine⟨_,rfl,⟨g4,cap4,rfl,hcap,hg4l,fun x hx=>?_⟩,hb0.trans (hX.mono (Nat.le_succ _))⟩;have hcx:=ho.cellAt x ZO;rw[List.getElem?_eq_getElem ZO]at hcx;obtain⟨g,h1,h2,h3⟩:=hR x _ (List.getElem?_eq_getElem ZO);rw[h1]at hcx;refine⟨g,hcx,h2,fun y hy=>?_⟩;rw[h1]at h3;rw[YaR h3 hy];simp[Yaj,List.getD,hy]
end Go.Proofs.YtjlclkcmfokobaaGreatDoor
