/- The walks of the document's Made and Fixed. -/
import Derived.Test.YtjlclkcmfokobaaGreatDoorMgPZ
import Derived.Test.YtjlclkcmfokobaaGreatDoorSRefZ
import Derived.Test.YtjlclkcmfokobaaGreatDoorMgQZ
namespace Go.Proofs.YtjlclkcmfokobaaGreatDoor
open Go.RowKit
set_option maxRecDepth 100000
section
variable {w:World} {g:Nat} {t:TypeId}
theorem BoxAt.set4{x y z u a b c d:Value}(h:BoxAt w g #[x,y,z,u] t):BoxAt ((((w.setCell ⟨g,0,none⟩ a).setCell ⟨g,1,none⟩ b).setCell ⟨g,2,none⟩ c).setCell ⟨g,3,none⟩ d) g #[a,b,c,d] t:=by
 simpa using(((h.set 0 a).set 1 b).set 2 c).set 3 d
theorem Yi8{a b c d:Value}{w0:World}{B:Nat}(h:Below B w0 w)(hg:B≤g):Below B w0 ((((w.setCell ⟨g,0,none⟩ a).setCell ⟨g,1,none⟩ b).setCell ⟨g,2,none⟩ c).setCell ⟨g,3,none⟩ d):=
 (((h.setCell (p:=⟨g,0,none⟩) hg a).setCell (p:=⟨g,1,none⟩) hg b).setCell (p:=⟨g,2,none⟩) hg c).setCell (p:=⟨g,3,none⟩) hg d
end
set_option maxHeartbeats 4000000 in
theorem YoV{W w:World}{fv:Value}{F:PFunc}(hF:FnV W W.heap.size fv F)(hW:Below W.heap.size W w)(hT:Yd F=true)(v:Int) :
 Calls Tryz.prog 45 #[fv,.int .i64 v] w fun e w'=>(∃A c,e=.returned (.agg #[.int .i64 (Y0 F v).op,.int .i64 (Y0 F v).dst,.slice A (Y0 F v).args.length c,.int .i64 (Y0 F v).num]))∧Below w.heap.size w w':=by
 have hmk:=fun(w':World) (h:Below W.heap.size W w')=>YiM hF h hT v
 obtain⟨A0,c0,A1,c1,A2,c2,rfl,l0,l1,l2,-,-,-,-,-,r2⟩:=id hF.open_;unfold Len at *;have hWs:=hW.size;have hb0:Below w.heap.size w ((w.alloc (.cells #[.slice A0 F.vars.length c0,.slice A1 F.params.length c1,.slice A2 F.blocks.length c2] 26)).alloc (.cells #[.int .i64 0,.int .i64 0,.slice none 0 0,.int .i64 0] 44)):=BL;have x0:BoxAt ((w.alloc (.cells #[.slice A0 F.vars.length c0,.slice A1 F.params.length c1,.slice A2 F.blocks.length c2] 26)).alloc (.cells #[.int .i64 0,.int .i64 0,.slice none 0 0,.int .i64 0] 44)) w.heap.size #[.slice A0 F.vars.length c0,.slice A1 F.params.length c1,.slice A2 F.blocks.length c2] 26:=(BoxAt.new _ _ _).alloc _;have x1:BoxAt ((w.alloc (.cells #[.slice A0 F.vars.length c0,.slice A1 F.params.length c1,.slice A2 F.blocks.length c2] 26)).alloc (.cells #[.int .i64 0,.int .i64 0,.slice none 0 0,.int .i64 0] 44)) (w.heap.size+1) #[.int .i64 0,.int .i64 0,.slice none 0 0,.int .i64 0] 44:=by
  have:=BoxAt.new (w.alloc (.cells #[.slice A0 F.vars.length c0,.slice A1 F.params.length c1,.slice A2 F.blocks.length c2] 26)) #[.int .i64 0,.int .i64 0,.slice none 0 0,.int .i64 0] 44;simpa using this
 have HB0:=Lh hb0;have HX0:=Lh x0;have HX1:=Lh x1;clear hb0 x0 x1 hT hF;have key:Yi F v=(-1,0)∨(∃i:Nat,Yi F v=((i:Int),-1))→Y0 F v=⟨0,-1,[],0⟩:=fun h=>by
  rcases h with h|⟨i,h⟩
  · exact Ygv h
  · exact Ygw h
 have fin:∀(w1:World) (m:PInst) (A:Option Addr) (c:Nat) (a:Act),BoxAt w1 (w.heap.size+1) #[.int .i64 0,.int .i64 0,.slice none 0 0,.int .i64 0] 44→Below w.heap.size w w1→a.tmps[4]?=some (.pointer (some ⟨w.heap.size+1,0,none⟩))→a.defers=[]→
  bodyPost Tryz.prog Tryz.f45 (fun e w'=>(∃A c,e=.returned (.agg #[.int .i64 m.op,.int .i64 m.dst,.slice A m.args.length c,.int .i64 m.num]))∧Below w.heap.size w w') Exit.ret a ((((w1.setCell ⟨w.heap.size+1,0,none⟩ (.int .i64 m.op)).setCell ⟨w.heap.size+1,1,none⟩ (.int .i64 m.dst)).setCell ⟨w.heap.size+1,2,none⟩ (.slice A m.args.length c)).setCell ⟨w.heap.size+1,3,none⟩ (.int .i64 m.num)):=by
  intro w1 m A c a hx hb ha hd;have hz:=hx.set4 (a:=.int .i64 m.op) (b:=.int .i64 m.dst) (c:=.slice A m.args.length c) (d:=.int .i64 m.num);have z0:=hz.cell 0;have z1:=hz.cell 1;have z2:=hz.cell 2;have z3:=hz.cell 3;simp only[List.getElem?_toArray,List.getElem?_cons_zero,List.getElem?_cons_succ]at z0 z1 z2 z3;exact bodyPost_ret (v:=.agg #[.int .i64 m.op,.int .i64 m.dst,.slice A m.args.length c,.int .i64 m.num]) (by simp[results,Tryz.results45,go_sem,ha,z0,z1,z2,z3]) hd ⟨⟨A,c,rfl⟩,Yi8 hb ZO⟩
 rcases Yi5 (F:=F) (v:=v)with h|⟨i,hi,h⟩|⟨i,k,hi,hk,h,-⟩
 · as_aux_lemma=>
   rw[Ygv h];rw[h]at hmk;have FIN:=fin;clear fin;go_enter Tryz.func45,Tryz.ntmps45;go_wp2_with fail;refine(hmk _ (hW.trans (HB0.out.mono hWs))).mono ?_;rintro e w1 ⟨rfl,hb1⟩;have y1:=HX1.out.below hb1 HX1.out.lt;have f1:=y1.frozen 0;have f2:=y1.frozen 1;have f3:=y1.frozen 2;have f4:=y1.frozen 3;have p1:=y1.cell 0;have p2:=y1.cell 1;have p3:=y1.cell 2;have p4:=y1.cell 3;have pl:=y1.lt;simp at p1 p2 p3 p4;have HB:=Lh (HB0.out.trans (hb1.mono HB0.out.size));have HY:=Lh y1;clear hb1 y1 hmk h;go_wp2;exact FIN w1 ⟨0,-1,[],0⟩ _ _ _ HY.out HB.out rfl rfl
 · as_aux_lemma=>
   rw[Ygw h];rw[h]at hmk;have FIN:=fin;clear fin;go_enter Tryz.func45,Tryz.ntmps45;go_wp2_with fail;refine(hmk _ (hW.trans (HB0.out.mono hWs))).mono ?_;rintro e w1 ⟨rfl,hb1⟩;have y1:=HX1.out.below hb1 HX1.out.lt;have f1:=y1.frozen 0;have f2:=y1.frozen 1;have f3:=y1.frozen 2;have f4:=y1.frozen 3;have p1:=y1.cell 0;have p2:=y1.cell 1;have p3:=y1.cell 2;have p4:=y1.cell 3;have pl:=y1.lt;simp at p1 p2 p3 p4;have HB:=Lh (HB0.out.trans (hb1.mono HB0.out.size));have HY:=Lh y1;clear hb1 y1 hmk h;go_wp2;exact FIN w1 ⟨0,-1,[],0⟩ _ _ _ HY.out HB.out rfl rfl
 · as_aux_lemma=>
   rw[Ygx h];obtain⟨m,hm⟩:∃m,(F.blk i).inst k=m:=⟨_,rfl⟩;rw[hm];rw[h]at hmk;have FIN:=fin;clear fin;go_enter Tryz.func45,Tryz.ntmps45;go_wp2_with fail;refine(hmk _ (hW.trans (HB0.out.mono hWs))).mono ?_;rintro e w1 ⟨rfl,hb1⟩;have hB1:Below w.heap.size w w1:=HB0.out.trans (hb1.mono HB0.out.size);have hW1:=hW.trans (hB1.mono hWs);obtain⟨bb,off,A3,c3,A4,c4,rfl,hbb,hnz,hy0,hy1,hy2,hy3,hy4,hy5,hy6,l3,l4,k3,k4,r3,r4⟩:=r2.blk hW1 hi;obtain⟨bi,oi,A5,c5,rfl,hbi,hp0,hp1,hp2,hp3,l5,k5,r5⟩:=r4.inst hW1 hk;rw[hm]at hp0 hp1 hp2 hp3;clear hm;have y0:=HX0.out.below hb1 HX0.out.lt;have y1:=HX1.out.below hb1 HX1.out.lt;have q2:=y0.cell 2;have f1:=y1.frozen 0;have f2:=y1.frozen 1;have f3:=y1.frozen 2;have f4:=y1.frozen 3;have p1:=y1.cell 0;have p2:=y1.cell 1;have p3:=y1.cell 2;have p4:=y1.cell 3;have pl:=y1.lt;simp at p1 p2 p3 p4 q2;have hiz:(i:Int)<(F.blocks.length:Int):=by omega
   have hkz:(k:Int)<((F.blk i).insts.length:Int):=by omega
   have HB:=Lh hB1;have HY:=Lh y1;clear hb1 y1 hmk h r2 r3 r4 r5 y0 hB1 hW1;go_wp2;refine FIN w1 m A5 c5 _ HY.out HB.out ?_ ?_<;>rfl
theorem YdX{w:World}{D:Nat→Prop}{A:Option Addr}{c:Nat}{a u:Int}(hd:DInts w D (.slice A 2 c) [a,u]):∃ab ao,A=some ⟨ab,ao,none⟩∧ab<w.heap.size∧D ab∧w.cell? ⟨ab,ao,none⟩=some (.int .i64 a)∧w.cell? ⟨ab,ao+1,none⟩=some (.int .i64 u):=by
 obtain⟨A',c',e,-,-,hr⟩:=hd;cases e;obtain⟨ab,ao,cs,rfl,hD,h1,-,h2,rfl⟩:=hr 0 a rfl;obtain⟨ab',ao',cs',e',-,-,-,h2',rfl⟩:=hr 1 u rfl;cases e';exact⟨ab,ao,rfl,h1,hD,by simpa using h2 0 _ rfl,by simpa using h2' 0 _ rfl⟩
set_option maxHeartbeats 4000000 in
theorem Yi9{W w:World}{fv:Value}{F:PFunc}{D:Nat→Prop}(hF:FnV W W.heap.size fv F)(hW:Below W.heap.size W w)(hT:Yd F=true){x:PInst}(hx:OkI x){A:Option Addr}{c:Nat}(hd:DInts w D (.slice A x.args.length c) x.args) :
 Calls Tryz.prog 17 #[fv,.agg #[.int .i64 x.op,.int .i64 x.dst,.slice A x.args.length c,.int .i64 x.num]] w fun e w'=>e=.returned (.int .i64 (Yav F x))∧Below w.heap.size w w':=by
 have hmk:=fun(u:Int) (w':World) (h:Below W.heap.size W w')=>YoV hF h hT u
 have hWs:=hW.size;obtain⟨A0,c0,A1,c1,A2,c2,rfl,l0,l1,l2,-⟩:=id hF.open_;clear hF hT
 by_cases h18:x.op=18
 · obtain⟨ax,ux,rfl,hu0,hu9⟩:=hx.2.2 h18
   obtain⟨ab,ao,rfl,hab,-,-,hc1⟩:=YdX hd;have hfv:Yav F (chk ax ux)=if(Y0 F ux).dst<0∨(Y0 F ux).op≠0∨(Y0 F ux).num<0 then -1 else(Y0 F ux).num:=rfl
   rw[hfv];replace hmk:=hmk ux;have hlen:(chk ax ux).args.length=2:=rfl;have hop:(chk ax ux).op=18:=rfl;rw[hlen,hop];generalize Y0 F ux=m at *;obtain⟨r,hr⟩:∃r:Int,(if m.dst<0∨m.op≠0∨m.num<0 then -1 else m.num)=r:=⟨_,rfl⟩;rw[hr];have HRV:=Lh hr;clear hr;obtain⟨wA,hwA⟩:∃wA:World,wA=(w.alloc (.cells #[.slice A0 F.vars.length c0,.slice A1 F.params.length c1,.slice A2 F.blocks.length c2] 26)).alloc (.cells #[.int .i64 18,.int .i64 (chk ax ux).dst,.slice (some ⟨ab,ao,none⟩) 2 c,.int .i64 (chk ax ux).num] 44):=⟨_,rfl⟩;have hbA:Below w.heap.size w wA:=by rw[hwA];exact BL
   have x0:BoxAt wA w.heap.size #[.slice A0 F.vars.length c0,.slice A1 F.params.length c1,.slice A2 F.blocks.length c2] 26:=by rw[hwA];exact(BoxAt.new _ _ _).alloc _
   have x1:BoxAt wA (w.heap.size+1) #[.int .i64 18,.int .i64 (chk ax ux).dst,.slice (some ⟨ab,ao,none⟩) 2 c,.int .i64 (chk ax ux).num] 44:=by
    rw[hwA];have:=BoxAt.new (w.alloc (.cells #[.slice A0 F.vars.length c0,.slice A1 F.params.length c1,.slice A2 F.blocks.length c2] 26)) #[.int .i64 18,.int .i64 (chk ax ux).dst,.slice (some ⟨ab,ao,none⟩) 2 c,.int .i64 (chk ax ux).num] 44;simpa using this
   have p0:=x0.cell 0;have p1:=x0.cell 1;have p2:=x0.cell 2;have pl:=x0.lt;have y0:=x1.cell 0;have y2:=x1.cell 2;have yl:=x1.lt;simp at p0 p1 p2 y0 y2;have pu:=(hbA.cell (p:=⟨ab,ao+1,none⟩) hab).trans hc1;have abl:ab<wA.heap.size:=Nt hab hbA.size;have HBA:=Lh hbA;have HMK:=Lh hmk;clear x0 x1 hbA hmk hd hx hc1 hab hfv h18 hlen hop;go_enter Tryz.func17,Tryz.ntmps17
   go_upto_region 1 with fail
   go_loud (rw[← hwA])
   clear hwA
   go_upto_region 3 with fail
   refine YeE [9,10,11,12,13,14,5] (fun i w' v'=>(([fun _ v'=>v'=.agg #[.slice A0 F.vars.length c0,.slice A1 F.params.length c1,.slice A2 F.blocks.length c2],fun _ v'=>v'=.pointer (some ⟨w.heap.size+1,2,none⟩),fun _ v'=>v'=.slice (some ⟨ab,ao,none⟩) 2 c,fun _ v'=>v'=.pointer (some ⟨ab,ao+1,none⟩),fun _ v'=>v'=.int .i64 ux,fun _ v'=>∃A9 c9,v'=.agg #[.int .i64 m.op,.int .i64 m.dst,.slice A9 m.args.length c9,.int .i64 m.num],fun w' v'=>∃N,v'=.pointer (some ⟨N,0,none⟩)∧BoxAt w' N #[.int .i64 0,.int .i64 0,.slice none 0 0,.int .i64 0] 44∧w.heap.size≤N]:List (World→Value→Prop)).getD i (fun _ _=>True)) w' v') ZK ZK ZK ZD ZK ZD ?mono ?step ?last
   case mono=>
    intro i w1 w2 v hi hb h
    match i,hi,h with
    |0,_,h=>exact h
    |1,_,h=>exact h
    |2,_,h=>exact h
    |3,_,h=>exact h
    |4,_,h=>exact h
    |5,_,h=>exact h
    |6,_,h=>exact(by obtain⟨N,e1,e2,e3⟩:=h;exact⟨N,e1,e2.below hb e2.lt,e3⟩)
    |k+7,hi,_=>exact absurd hi (Nat.not_lt_of_le (Nat.le_add_left _ _))
   case step=>
    intro i o vs w1 ho hi hl hb hp K hK;have hl0:vs.length=7:=hl;clear hl;obtain⟨v0,r0,rfl,hl1⟩:=Ye (n:=6) hl0;obtain⟨v1,r1,rfl,hl2⟩:=Ye (n:=5) hl1;obtain⟨v2,r2,rfl,hl3⟩:=Ye (n:=4) hl2;obtain⟨v3,r3,rfl,hl4⟩:=Ye (n:=3) hl3;obtain⟨v4,r4,rfl,hl5⟩:=Ye (n:=2) hl4;obtain⟨v5,r5,rfl,hl6⟩:=Ye (n:=1) hl5;obtain⟨v6,r6,rfl,hl7⟩:=Ye (n:=0) hl6;obtain rfl:=List.eq_nil_of_length_eq_zero hl7;clear hl0 hl1 hl2 hl3 hl4 hl5 hl6 hl7
    match i,ho,hi,hp with
    |0,ho,hi,hp=>
     obtain rfl:=Option.some.inj ho;clear hi;clear hp;simp only[Yc,Act.put,La,Lz,Lc];have z0:=(hb.cell (p:=⟨w.heap.size,0,none⟩) pl).trans p0;have z1:=(hb.cell (p:=⟨w.heap.size,1,none⟩) pl).trans p1;have z2:=(hb.cell (p:=⟨w.heap.size,2,none⟩) pl).trans p2;have zl:w.heap.size<w1.heap.size:=Nt pl hb.size;go_simp
     try go_wp2
     refine hK.out (.agg #[.slice A0 F.vars.length c0,.slice A1 F.params.length c1,.slice A2 F.blocks.length c2]) _ _ ?_ ZE rfl;simp only[Yc,Act.put,La,Lz,Lc]
    |1,ho,hi,hp=>
     obtain rfl:=Option.some.inj ho;clear hi;clear hp;simp only[Yc,Act.put,La,Lz,Lc];go_simp
     try go_wp2
     refine hK.out (.pointer (some ⟨w.heap.size+1,2,none⟩)) _ _ ?_ ZE rfl;simp only[Yc,Act.put,La,Lz,Lc]
    |2,ho,hi,hp=>
     obtain rfl:=Option.some.inj ho;clear hi;have q1:v1=.pointer (some ⟨w.heap.size+1,2,none⟩):=hp 1 ZK;obtain rfl:=q1;clear hp;simp only[Yc,Act.put,La,Lz,Lc];have z0:=(hb.cell (p:=⟨w.heap.size+1,2,none⟩) yl).trans y2;have zl:w.heap.size+1<w1.heap.size:=Nt yl hb.size;go_simp
     try go_wp2
     refine hK.out (.slice (some ⟨ab,ao,none⟩) 2 c) _ _ ?_ ZE rfl;simp only[Yc,Act.put,La,Lz,Lc]
    |3,ho,hi,hp=>
     obtain rfl:=Option.some.inj ho;clear hi;have q2:v2=.slice (some ⟨ab,ao,none⟩) 2 c:=hp 2 ZK;obtain rfl:=q2;clear hp;simp only[Yc,Act.put,La,Lz,Lc];go_simp
     try go_wp2
     refine hK.out (.pointer (some ⟨ab,ao+1,none⟩)) _ _ ?_ ZE rfl;simp only[Yc,Act.put,La,Lz,Lc]
    |4,ho,hi,hp=>
     obtain rfl:=Option.some.inj ho;clear hi;have q3:v3=.pointer (some ⟨ab,ao+1,none⟩):=hp 3 ZK;obtain rfl:=q3;clear hp;simp only[Yc,Act.put,La,Lz,Lc];have z0:=(hb.cell (p:=⟨ab,ao+1,none⟩) abl).trans pu;have zl:ab<w1.heap.size:=Nt abl hb.size;go_simp
     try go_wp2
     refine hK.out (.int .i64 ux) _ _ ?_ ZE rfl;simp only[Yc,Act.put,La,Lz,Lc]
    |5,ho,hi,hp=>
     obtain rfl:=Option.some.inj ho;clear hi;have q0:v0=.agg #[.slice A0 F.vars.length c0,.slice A1 F.params.length c1,.slice A2 F.blocks.length c2]:=hp 0 ZK;have q4:v4=.int .i64 ux:=hp 4 ZK;obtain rfl:=q0;obtain rfl:=q4;clear hp;simp only[Yc,Act.put,La,Lz,Lc];go_simp;go_at_call 45;refine(HMK.out _ (hW.trans ((HBA.out.trans (hb.mono HBA.out.size)).mono hWs))).mono ?_;rintro e w9 ⟨⟨A9,c9,rfl⟩,hb9⟩;refine hK.out (.agg #[.int .i64 m.op,.int .i64 m.dst,.slice A9 m.args.length c9,.int .i64 m.num]) _ _ ?_ (hb9) (⟨_,_,rfl⟩);simp only[Yc,Act.put,La,Lz,Lc]
    |6,ho,hi,hp=>
     obtain rfl:=Option.some.inj ho;clear hi;clear hp;simp only[Yc,Act.put,La,Lz,Lc];go_simp;refine hK.out (.pointer (some ⟨w1.heap.size,0,none⟩)) _ _ ?_ ((Br _ _).alloc (Nr _) _) (⟨_,rfl,BoxAt.new _ _ _,Nat.le_trans HBA.out.size hb.size⟩);simp only[Yc,Act.put,La,Lz,Lc]
    |k+7,_,hi,_=>exact absurd hi (Nat.not_lt_of_le (Nat.le_add_left _ _))
   case last=>
    intro vs w1 hl hb1 hp;have hl0:vs.length=7:=hl;clear hl;obtain⟨v0,r0,rfl,hl1⟩:=Ye (n:=6) hl0;obtain⟨v1,r1,rfl,hl2⟩:=Ye (n:=5) hl1;obtain⟨v2,r2,rfl,hl3⟩:=Ye (n:=4) hl2;obtain⟨v3,r3,rfl,hl4⟩:=Ye (n:=3) hl3;obtain⟨v4,r4,rfl,hl5⟩:=Ye (n:=2) hl4;obtain⟨v5,r5,rfl,hl6⟩:=Ye (n:=1) hl5;obtain⟨v6,r6,rfl,hl7⟩:=Ye (n:=0) hl6;obtain rfl:=List.eq_nil_of_length_eq_zero hl7;clear hl0 hl1 hl2 hl3 hl4 hl5 hl6 hl7;have q0:v0=.agg #[.slice A0 F.vars.length c0,.slice A1 F.params.length c1,.slice A2 F.blocks.length c2]:=hp 0 (of_decide_eq_true ZK);have q1:v1=.pointer (some ⟨w.heap.size+1,2,none⟩):=hp 1 (of_decide_eq_true ZK);have q2:v2=.slice (some ⟨ab,ao,none⟩) 2 c:=hp 2 (of_decide_eq_true ZK);have q3:v3=.pointer (some ⟨ab,ao+1,none⟩):=hp 3 (of_decide_eq_true ZK);have q4:v4=.int .i64 ux:=hp 4 (of_decide_eq_true ZK);have q5:∃A9 c9,v5=.agg #[.int .i64 m.op,.int .i64 m.dst,.slice A9 m.args.length c9,.int .i64 m.num]:=hp 5 (of_decide_eq_true ZK);have q6:∃N,v6=.pointer (some ⟨N,0,none⟩)∧BoxAt w1 N #[.int .i64 0,.int .i64 0,.slice none 0 0,.int .i64 0] 44∧w.heap.size≤N:=hp 6 (of_decide_eq_true ZK);obtain rfl:=q0;obtain rfl:=q1;obtain rfl:=q2;obtain rfl:=q3;obtain rfl:=q4;obtain⟨A9,c9,rfl⟩:=q5;obtain⟨gm,rfl,bm,hgm⟩:=q6;clear hp;simp only[Yc,Act.put,La,Lz,Lc];simp only[List.length_cons,List.length_nil,List.drop_succ_cons,List.drop_zero,Nat.zero_add,Nat.reduceAdd];have k0:=bm.cell 0;have k1:=bm.cell 1;have k2:=bm.cell 2;have k3:=bm.cell 3;have kl:=bm.lt;have f0:=bm.frozen 0;have f1:=bm.frozen 1;have f2:=bm.frozen 2;have f3:=bm.frozen 3;simp at k0 k1 k2 k3;have HBM:=Lh bm;have HB1:=Lh (HBA.out.trans (hb1.mono HBA.out.size));clear hb1 bm
    go_upto_region 4 with fail
    have bz:=HBM.out.set4 (a:=.int .i64 m.op) (b:=.int .i64 m.dst) (c:=.slice A9 m.args.length c9) (d:=.int .i64 m.num);have HBZ:=Lh (Yi8 (a:=.int .i64 m.op) (b:=.int .i64 m.dst) (c:=.slice A9 m.args.length c9) (d:=.int .i64 m.num) HB1.out hgm);obtain⟨wz,hwz⟩:∃wz:World,wz=(((w1.setCell ⟨gm,0,none⟩ (.int .i64 m.op)).setCell ⟨gm,1,none⟩ (.int .i64 m.dst)).setCell ⟨gm,2,none⟩ (.slice A9 m.args.length c9)).setCell ⟨gm,3,none⟩ (.int .i64 m.num):=⟨_,rfl⟩
    go_loud (rw[← hwz])
    rw[← hwz]at bz HBZ;have t0:=bz.cell 0;have t1:=bz.cell 1;have t3:=bz.cell 3;have tl:=bz.lt;simp at t0 t1 t3;clear hwz bz k0 k1 k2 k3 kl f0 f1 f2 f3 p0 p1 p2 pl y0 y2 yl pu abl
    by_cases h1:m.dst<0
    · as_aux_lemma=>
      have d1:decide (m.dst<0)=true:=decide_eq_true h1;have HE:=Lh (show r=-1 by rw[← HRV.out,if_pos (.inl h1)]);clear h1;go_wp2_with fail;go_ret;exact⟨Yt (by rw[HE.out]),HBZ.out⟩
    · by_cases h2:m.op=0
      · have d2:(m.op !=0)=false:=by simp[h2]
        have d1:decide (m.dst<0)=false:=decide_eq_false h1
        by_cases h3:m.num<0
        · as_aux_lemma=>
          have d3:decide (m.num<0)=true:=decide_eq_true h3;have HE:=Lh (show r=-1 by rw[← HRV.out,if_pos (.inr (.inr h3))]);clear h1 h2 h3;go_wp2_with fail;go_ret;exact⟨Yt (by rw[HE.out]),HBZ.out⟩
        · as_aux_lemma=>
          have d3:decide (m.num<0)=false:=decide_eq_false h3;have HE:=Lh (show r=m.num by rw[← HRV.out,if_neg ZO]);clear h1 h2 h3;go_wp2_with fail;go_ret;exact⟨Yt (by rw[HE.out]),HBZ.out⟩
      · as_aux_lemma=>
        have d1:decide (m.dst<0)=false:=decide_eq_false h1;have d2:(m.op !=0)=true:=by simp[h2]
        have HE:=Lh (show r=-1 by rw[← HRV.out,if_pos (.inr (.inl h2))]);clear h1 h2;go_wp2_with fail;go_ret;exact⟨Yt (by rw[HE.out]),HBZ.out⟩
 · as_aux_lemma=>
   have d0:(x.op !=18)=true:=by simp[h18]
   have hfv:Yav F x=-1:=if_neg h18;rw[hfv];clear h18 hfv hmk hd hx;go_enter Tryz.func17,Tryz.ntmps17;go_wp2_with fail;go_ret;exact⟨rfl,BL⟩
structure Gr (B:Nat) (w w':World):Prop where
 bel:Below B w w'
 kt:KT [3] w w'
section
variable {Bo B base n:Nat} {a w w':World} {r:Option Nat} {v:Value} {xs:List PInst} {cs:List Value} {x:PInst} {D:Nat→Prop}
theorem Gr.refl:Gr B w w:=⟨Br _ _,KT.refl⟩
theorem Gr.trans(h:Gr B a w)(h':Gr B w w'):Gr B a w':=⟨h.bel.trans h'.bel,h.kt.trans h'.kt⟩
theorem Gr.of(h:Below w.heap.size w w')(hB:B≤w.heap.size):Gr B w w':=⟨h.mono hB,KT.of_below h⟩
theorem Gr.alloc(hB:B≤w.heap.size)(o:Obj):Gr B w (w.alloc o):=Gr.of (YO _ _) hB
theorem Gr.grown(hg:w.grownBy w' r)(hB:B≤w.heap.size)(hr:∀k,r=some k→B≤k∧NT [44] w k):Gr B w w':=by
 refine⟨⟨hg.os,hg.tape,hg.output,hg.size,fun k hk=>hg.block k ZO fun e=>?_⟩,⟨hg.size,fun b hb=>hg.block b hb.lt fun e=>?_⟩⟩
 · have:=(hr k e.symm).1
   omega
 · obtain⟨c1,t1,h1,h2⟩:=hb
   obtain⟨c2,t2,h3,h4⟩:=(hr b e.symm).2;rw[h1]at h3;cases h3;simp at h2 h4;rw[h2]at h4;cases h4
def EB(Bo:Nat)(w:World)(b:Nat):Prop:=b<Bo∨NT [3] w b
def CE(Bo:Nat)(w:World)(cs:List Value)(x:PInst):Prop:=CInst w (EB Bo w) cs x
theorem EB.tr(h:Gr B w w')(hBo:Bo≤B:=by(assumption)):Tr (EB Bo w) (EB Bo w') w w':=⟨h.bel.size,fun b hb hl=>by
 rcases hb with hb|hb
 · exact⟨h.bel.block b (Nt hb hBo),.inl hb⟩
 · have:=(h.kt.tr (ts':=[3]) ZS).2 b hb hl
   exact⟨this.1,.inr this.2⟩⟩
theorem CE.gr(h:CE Bo w cs x)(hg:Gr B w w')(hBo:Bo≤B:=by(assumption)):CE Bo w' cs x:=h.turn (EB.tr hg)
theorem YeL(h:RRow w base 44 4 (CE Bo w) v xs){k:Nat}(hk:v.ownBlock=some k):NT [44] w k:=by
 obtain⟨cells,ho⟩:=h.own;obtain⟨A,c,rfl⟩:=Yp ho;rcases ho.2 with⟨hv,-⟩|⟨g,cap,cur,hv,hb,hh,-⟩
 · rw[hv]at hk
   cases hk
 · rw[hv]at hk
   cases hk;exact⟨_,_,hh,ZS⟩
theorem YcN(h:RRow w base 44 4 (CE Bo w) v xs)(hg:Gr B w w')(hk:∀k,v.ownBlock=some k→w'.heap[k]?=w.heap[k]?)(hBo:Bo≤B:=by(assumption)):RRow w' base 44 4 (CE Bo w') v xs:=
 h.turn hk fun _ _ h=>h.gr hg
theorem YbL(h:RRow w base 44 4 (CE Bo w) v xs)(hb:Below w.heap.size w w')(hB:B≤w.heap.size)(hBo:Bo≤B:=by(assumption)):RRow w' base 44 4 (CE Bo w') v xs:=
 YcN h (Gr.of hb hB) fun k hk=>hb.block k (h.lt hk).2
theorem Yja(h:DRow w D 4 (CE Bo w) v xs)(hg:Gr B w w')(hk:Kp D w w')(hBo:Bo≤B:=by(assumption)):DRow w' D 4 (CE Bo w') v xs:=
 h.turn (hk.tr fun _ _ h=>h) fun _ _ h=>h.gr hg
theorem YdY(h:DRow w D 4 (CE Bo w) v xs)(hb:Below w.heap.size w w')(hB:B≤w.heap.size)(hBo:Bo≤B:=by(assumption)):DRow w' D 4 (CE Bo w') v xs:=
 Yja h (Gr.of hb hB) (Kp.below (B:=w.heap.size) hb fun _ hk _=>hk)
theorem Ygy(h:DRow w D 4 (CE Bo w) v xs){i:Nat}{x:PInst}(hi:xs[i]?=some x):∃b off c A1 c1,v=.slice (some ⟨b,off,none⟩) xs.length c∧D b∧b<w.heap.size∧
 w.cell? ⟨b,off+i*4,none⟩=some (.int .i64 x.op)∧w.cell? ⟨b,off+i*4+1,none⟩=some (.int .i64 x.dst)∧w.cell? ⟨b,off+i*4+2,none⟩=some (.slice A1 x.args.length c1)∧w.cell? ⟨b,off+i*4+3,none⟩=some (.int .i64 x.num)∧DInts w (EB Bo w) (.slice A1 x.args.length c1) x.args:=by
 obtain⟨A,c,rfl,-,-,hr⟩:=h;obtain⟨b,off,cs,rfl,hD,hb,-,hc,v1,rfl,hd⟩:=hr i x hi;obtain⟨A1,c1,rfl,-⟩:=id hd;exact⟨b,off,c,A1,c1,rfl,hD,hb,hc 0 _ rfl,hc 1 _ rfl,hc 2 _ rfl,hc 3 _ rfl,hd⟩
theorem Yjb(h:DRow w D 4 (CE Bo w) v xs):∃A c,v=.slice A xs.length c∧xs.length≤c:=by
 obtain⟨A,c,rfl,-,h1,-⟩:=h;exact⟨A,c,rfl,h1⟩
theorem YoW{D':Nat→Prop}(h:DRow w D 4 (CE Bo w) v xs)(hD:∀b,b<w.heap.size→D b→D' b):DRow w D' 4 (CE Bo w) v xs:=
 h.turn (Tr.mono hD) fun _ _ h=>h
theorem Yjc(h:DRow w D 4 (CE Bo w) v xs):SInsts w w.heap.size v xs:=
 DInsts.rd (D:=fun _=>True) (h.turn (Tr.mono fun _ _ _=>trivial) fun _ _ h=>CInst.turn h (Tr.mono fun _ _ _=>trivial)) fun _ h _=>h
theorem YoX{b off c:Nat}{X:Option Addr}(h:DRow w D 4 (CE Bo w) (.slice (some ⟨b,off,none⟩) (xs.length+1) c) (x::xs))(hX:1<xs.length+1→X=some ⟨b,off+4,none⟩):DRow w D 4 (CE Bo w) (.slice X xs.length (c-1)) xs:=by
 obtain⟨A,c',e,hl,hc,hr⟩:=h;simp only[Value.slice.injEq,List.length_cons,true_and]at e;obtain⟨rfl,rfl⟩:=e;unfold Len at hl;simp only[List.length_cons]at hl hc;refine⟨X,c-1,rfl,by unfold Len;omega,ZO,fun i y hy=>?_⟩;obtain⟨b',off',cs,e,hD,hb,hs,hcell,hC⟩:=hr (i+1) y (by simpa using hy);cases e;have hi:=(List.getElem?_eq_some_iff.1 hy).1;exact⟨b,off+4,cs,hX ZO,hD,hb,hs,fun j u hj=>by have:=hcell j u hj;rwa [show off+(i+1)*4+j=off+4+i*4+j from ZO]at this,hC⟩
theorem YoY{v' u:Value}(h:DRow w (fun b=>v.ownBlock≠some b) 4 (CE Bo w) u xs)(hg:w.grownBy w' v.ownBlock)(hG:Gr B w w')(hk:∀k,v'.ownBlock=some k→v.ownBlock=some k∨w.heap.size<k)(hBo:Bo≤B:=by(assumption)):DRow w' (fun b=>v'.ownBlock≠some b) 4 (CE Bo w') u xs:=
 h.turn ⟨hg.size,fun b hD hl=>⟨hg.block b hl fun e=>hD e.symm,fun e=>by
  rcases hk b e with h1|h1
  · exact hD h1
  · omega⟩⟩ fun _ _ h=>h.gr hG
theorem EB.cell{b o:Nat}(hG:Gr B w w')(h:EB Bo w b)(hBo:Bo≤B:=by(assumption)):w'.cell? ⟨b,o,none⟩=w.cell? ⟨b,o,none⟩:=by
 refine World.cell?_of_block (a:=⟨b,o,none⟩) ?_;rcases h with h|h
 · exact hG.bel.block b (Nt h hBo)
 · exact hG.kt.blk b h
theorem YoZ{W:World}(h:SInsts W W.heap.size v xs)(hw:Below W.heap.size W w)(hB:W.heap.size≤Bo)(hD:∀b,b<W.heap.size→D b):DRow w D 4 (CE Bo w) v xs:=by
 obtain⟨A,c,rfl,hl,hc,hr⟩:=h;refine⟨A,c,rfl,hl,hc,fun i x hx=>?_⟩;obtain⟨b,off,rfl,hb,h0,h1,⟨v1,h2,A1,c1,rfl,hl1,hc1,hr1⟩,h3⟩:=hr i x hx;have hs:=hw.size;have cell:∀j,w.cell? ⟨b,off+i*4+j,none⟩=W.cell? ⟨b,off+i*4+j,none⟩:=fun j=>hw.cell (p:=⟨b,off+i*4+j,none⟩) hb
 refine⟨b,off,[.int .i64 x.op,.int .i64 x.dst,.slice A1 x.args.length c1,.int .i64 x.num],rfl,hD b hb,ZO,rfl,fun j u hj=>?_,_,rfl,A1,c1,rfl,hl1,hc1,fun k y hy=>?_⟩
 · rw[cell j]
   match j,hj with
   |0,hj=>cases hj;exact h0
   |1,hj=>cases hj;exact h1
   |2,hj=>cases hj;exact h2
   |3,hj=>cases hj;exact h3
 · obtain⟨b2,off2,rfl,hb2,h5⟩:=hr1 k y hy
   exact⟨b2,off2,[.int .i64 y],rfl,.inl ZO,ZO,rfl,fun j u hj=>by
    match j,hj with
    |0,hj=>cases hj;exact(hw.cell (p:=⟨b2,off2+k*1,none⟩) hb2).trans h5,rfl⟩
end
theorem YdZ{w:World}{Bo B base N:Nat}{ops:Array Oper}{rest:List Oper}{o:Oper}{a:Act}{Q:Exit→Act→World→Prop}{v:Value}{xs:List PInst}{us:Array Value}{x:PInst}(hgd:o.guard=none)(s z:Operand)
 (ho:o.op=.call { callee:=.builtin .append,args:=#[s,z],argTypes:=#[35,35] }) (hN:w.heap.size=N) (hs:a.eval s=v) (hz:a.eval z=.slice (some ⟨N,0,none⟩) 1 1)
 (hR:RRow w base 44 4 (CE Bo w) v xs) (hu:CE Bo w us.toList x) (hn:xs.length<1048576) (hb:base≤w.heap.size) (hB:B≤base) (hBo:Bo≤B)
 (h:∀A c w',RRow w' base 44 4 (CE Bo w') (.slice A (xs.length+1) c) (xs++[x])→w.grownBy w' v.ownBlock→Gr B w w'→(∀k,(Value.slice A (xs.length+1) c).ownBlock=some k→v.ownBlock=some k∨w.heap.size<k)→wpList Tryz.prog ops Q rest (a.put o.dst (.slice A (xs.length+1) c)) w') :
 wpList Tryz.prog ops Q (o::rest) a (w.alloc (.cells us 44)):=by
 obtain⟨cells,hown⟩:=hR.own;have hl:us.size=4:=by
  obtain⟨v1,e,-⟩:=hu;have:=congrArg List.length e;simpa using this
 have h1:∀u∈us,u.oneCell'=true:=fun u hm=>YeA hu u (by simpa using hm)
 refine YcA w hgd s z 35 ho base 44 4 48 Tryz.underlying35 Tryz.info44 rfl ZD v xs.length cells hs hown N hN us hz hl h1 hn ZD hb ?_;intro v' w' ho' hg hk;obtain⟨A,c,rfl⟩:=Yp ho';have hg2:w.grownBy w' v.ownBlock:=by
  have hs2:=hg.size;simp at hs2;exact⟨hg.os,hg.tape,hg.output,ZO,fun k hk hne=>(hg.block k ZX hne).trans (heap_alloc_old w _ hk)⟩
 have hG:Gr B w w':=Gr.grown hg2 ZO fun k e=>⟨by have:=(hR.lt e).1;omega,YeL hR e⟩
 exact h A c w' (hR.snoc hown ho' (by simpa using hl) (fun _ _ h=>h.gr hG) (hu.gr hG)) hg2 hG hk
theorem Yo0{P:Program}{w:World}{ops:Array Oper}{rest:List Oper}{o:Oper}{a:Act}{Q:Exit→Act→World→Prop}(hgd:o.guard=none)(s:Operand)(t:TypeId)(ho:o.op=.slice t s (some (.const (.int .i64 1))) none none)
 (e:TypeId) (ht:P.underlying t=some (.slice e)) (hsz:(P.info? e).map (·.size)=some 4) (b off len cap:Nat) (hs:a.eval s=.slice (some ⟨b,off,none⟩) len cap) (h1:1≤len) (hc:len≤cap)
 (h:∀X,(1<len→X=some ⟨b,off+4,none⟩)→wpList P ops Q rest (a.put o.dst (.slice X (len-1) (cap-1))) w):wpList P ops Q (o::rest) a w:=by
 refine wpList_plain hgd fun K hK=>?_
 have h2:=h (if cap=1 then some ⟨b,off,none⟩ else some ⟨b,off+4,none⟩) (fun h3=>if_neg ZO);cases hq:P.info? e with
 |none=>simp[hq]at hsz
 |some i=>
  have hi:i.size=4:=by simpa[hq]using hsz
  have h3:(1:Int)≤(len:Int):=by omega
  unfold Oper.wp;have he:a.eval (.const (.int .i64 1))=.int .i64 1:=rfl;simp[execOp,ho,hs,he,Instr.sliceAt,Instr.slice,run_underlying ht,Instr.sliceBounds,Instr.sliceBound,asIntOf,sizeOf,typeInfo,hq,hi,Result.andThen,h3,Addr.add];exact hK _ _ h2
end Go.Proofs.YtjlclkcmfokobaaGreatDoor
