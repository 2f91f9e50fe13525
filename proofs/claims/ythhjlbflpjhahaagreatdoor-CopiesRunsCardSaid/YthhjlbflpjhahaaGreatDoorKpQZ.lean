/- The walk of the document's Run: the outcome that it answers. -/
import Derived.Test.YthhjlbflpjhahaaGreatDoorRunWZ
import Derived.Test.YthhjlbflpjhahaaGreatDoorRunBZ
import Derived.Deep.MidRow
import Derived.Test.YthhjlbflpjhahaaGreatDoorSameZ
import Derived.Test.YthhjlbflpjhahaaGreatDoorSimQZ
namespace Go.Proofs.YthhjlbflpjhahaaGreatDoor
open Go.RowKit
set_option maxRecDepth 100000
def YG(s:RSt)(vt:Value):Value:=.agg #[.int .i64 s.ending,.int .i64 s.value,.int .i64 s.trap,vt,.int .i64 s.steps,.int .i64 (ith s.checks 0),.int .i64 (ith s.checks 1),.int .i64 (ith s.checks 2),.int .i64 (ith s.checks 3),.int .i64 (ith s.checks 4),.int .i64 (ith s.checks 5),.int .i64 (ith s.checks 6),.int .i64 (ith s.checks 7)]
theorem Ypj{F:PFunc}{k:Nat}{s:RSt}(h:s.ended=false):Yf F (k+1) s=Yf F k (Yx F s):=by rw[Yf,if_neg (by rw[h];decide)]
theorem Ypk{F:PFunc}:∀{k:Nat} {s:RSt},s.ended=true→Yf F k s=s
 |0,_,_=>rfl
 |k+1,s,h=>by rw[Yf,if_pos h]
theorem Ydz{b k:Nat}(h:k≠b):∀(vs:List Value) (o:Nat) (w:World),(w.setCells b o vs).heap[k]?=w.heap[k]?
 |[],_,_=>rfl
 |v::r,o,w=>by
  rw[World.setCells,Ydz h r];exact YcS h
theorem Yeq{B b:Nat}{a:World}(hb:B≤b):∀(vs:List Value) (o:Nat) (w:World),Below B a w→Below B a (w.setCells b o vs)
 |[],_,_,h=>h
 |v::r,o,w,h=>by
  rw[World.setCells];exact Yeq hb r _ _ (h.setCell hb _)
def Yfe(F:PFunc)(n:Nat)(s:RSt)(w:World)(e:Ending)(w':World):Prop:=∃vt,e=.returned (YG (Yf F n s) vt)∧w'.ownsRow 0 2 1 vt (Yf F n s).trace.length ((Yf F n s).trace.map (Value.int .i64))∧Below w.heap.size w w'
set_option maxHeartbeats 16000000 in
theorem YjA{W w:World}{F:PFunc}{I:PIn}{A0 A1 A2:Option Addr}{c0 c1 c2 fuel:Nat}{iv:Value}(hF:FnV W W.heap.size (.agg #[.slice A0 F.vars.length c0,.slice A1 F.params.length c1,.slice A2 F.blocks.length c2]) F)
 (hI:InV W W.heap.size iv I) (hW:Below W.heap.size W w) (hT:Yd F=true) (hS:Yav F) (hN:Ybf F) (hIn:Yem I) (hR:RightF F I) (hp:F.params.length≤F.vars.length) (hvl:F.vars.length≤512) (hf:fuel≤1073741824) :
 Calls Tryz.prog 24 #[.agg #[.slice A0 F.vars.length c0,.slice A1 F.params.length c1,.slice A2 F.blocks.length c2],iv,.int .i64 fuel] w (Yfe F fuel (YR F I) w):=by
 obtain⟨A0',c0',A1',c1',A2',c2',hfe,l0,l1,l2,-,-,-,r0,r1,r2⟩:=id hF.open_;simp only[Value.agg.injEq,Array.mk.injEq,List.cons.injEq,Value.slice.injEq,true_and,and_true]at hfe;obtain⟨⟨rfl,rfl⟩,⟨rfl,rfl⟩,rfl,rfl⟩:=hfe;obtain⟨B0,d0,B1,d1,rfl,m0,m1,k0,k1,q0,q1⟩:=id hI.open_;unfold Len at *;clear r0 r1 r2 q0 q1;have HBG:=Lh (fun(w':World) (h:Below W.heap.size W w')=>Yi3 hF hI h hR hp hvl);have HST:=Lh (fun(w':World) (h:Below W.heap.size W w') (D:Nat→Prop) (nb gi gb ga:Nat) (vr vt:Value) (vrs:List Value) (s:RSt) (hI':RInv F s) (hr:RunO w' D (.slice A0 F.vars.length c0) (.slice A1 F.params.length c1) (.slice A2 F.blocks.length c2) nb gi gb ga F.vars.length vr vt vrs s) (hD:∀k,D k→k<w'.heap.size) (hDW:∀k,k<W.heap.size→D k)=>Yjz hF hT hS hN h hI' hr hD hDW);have HI0:=Lh (Ye7 hT hR hIn);have HT:=Lh hT;have HN:=Lh hN;have HW:=Lh hW;obtain⟨w5,hw5⟩:∃w5:World,w5=((w.alloc (.cells #[.slice A0 F.vars.length c0,.slice A1 F.params.length c1,.slice A2 F.blocks.length c2] 26)).alloc (.cells #[.slice B0 I.args.length d0,.slice B1 I.rows.length d1] 38)).alloc (.cells #[.int .i64 0,.int .i64 0,.int .i64 0,.slice none 0 0,.int .i64 0,.int .i64 0,.int .i64 0,.int .i64 0,.int .i64 0,.int .i64 0,.int .i64 0,.int .i64 0,.int .i64 0] 47):=⟨_,rfl⟩;have hb5:Below w.heap.size w w5:=by rw[hw5];exact BL
 have ho5:BoxAt w5 (w.heap.size+1+1) #[.int .i64 0,.int .i64 0,.int .i64 0,.slice none 0 0,.int .i64 0,.int .i64 0,.int .i64 0,.int .i64 0,.int .i64 0,.int .i64 0,.int .i64 0,.int .i64 0,.int .i64 0] 47:=by
  rw[hw5];have:=BoxAt.new ((w.alloc (.cells #[.slice A0 F.vars.length c0,.slice A1 F.params.length c1,.slice A2 F.blocks.length c2] 26)).alloc (.cells #[.slice B0 I.args.length d0,.slice B1 I.rows.length d1] 38)) #[.int .i64 0,.int .i64 0,.int .i64 0,.slice none 0 0,.int .i64 0,.int .i64 0,.int .i64 0,.int .i64 0,.int .i64 0,.int .i64 0,.int .i64 0,.int .i64 0,.int .i64 0] 47;simpa using this
 have s5:w5.heap.size=w.heap.size+3:=by rw[hw5];simp
 clear hF hI hT hS hN hIn hR hp hvl hW;go_enter Tryz.func24,Tryz.ntmps24;go_wp2_with fail;rw[← hw5];refine(HBG.out _ (HW.out.trans (hb5.mono HW.out.size))).mono ?_;rintro e w6 ⟨nb,gi,gb,ga,vr,vrs,rfl,hR6,hb6⟩;have HR6:=Lh hR6;have Hb6:=Lh hb6;have HO5:=Lh ho5;have HB5:=Lh hb5;clear hR6 hb6 hw5 ho5 hb5 HBG;go_wp2
 go_loopw[8] (fun x wr=>∃(i:Nat) (s:RSt) (vr' vt':Value) (vrs':List Value),x=.int .i64 i∧i≤fuel∧RunO wr (fun k=>k<w5.heap.size) (.slice A0 F.vars.length c0) (.slice A1 F.params.length c1) (.slice A2 F.blocks.length c2) nb gi gb ga F.vars.length vr' vt' vrs' s∧Hid (RInv F s∧Yf F (fuel-i) s=Yf F fuel (YR F I))∧Kp (fun k=>k<w5.heap.size) w6 wr) (fun x _=>fuel-(intOf x).toNat)
 case atStart=>exact⟨0,YR F I,_,_,_,rfl,Nz _,HR6.out,⟨HI0.out,rfl⟩,Kp.refl⟩
 case round=>as_aux_lemma=>
  obtain⟨i,s,vr',vt',vrs',rfl,hi,h4,hIV,k4⟩:=hrel;have hBr:Below w5.heap.size w5 wr:=Hb6.out.trans (Kp.to_below (B:=w5.heap.size) k4 (fun k hk=>hk) Hb6.out.size);have hWr:=HB5.out.trans (hBr.mono HB5.out.size);have xl:=h4.box.lt;have z22:=h4.box.cell 22;replace z22:wr.cell? ⟨nb,22,none⟩=some (.bool s.ended):=z22
  by_cases hlt:i<fuel∧s.ended=false
  · as_aux_lemma=>
    have hik:(i:Int)<(fuel:Int):=by omega
    rw[hlt.2]at z22;have hst:=HST.out wr (HW.out.trans (hWr.mono HW.out.size)) _ nb gi gb ga vr' vt' vrs' s hIV.out.1 h4 (fun k hk=>Nt hk hBr.size) (fun k hk=>by have:=HW.out.size;omega);have HI2:=Lh (show RInv F (Yx F s)∧Yf F (fuel-(i+1)) (Yx F s)=Yf F fuel (YR F I)from⟨hIV.out.1.step HT.out HN.out,by rw[← hIV.out.2,show fuel-i=(fuel-(i+1))+1 from ZO,Ypj hlt.2]⟩);have HK4:=Lh k4;have hfu:i+1≤fuel:=by omega
    clear hlt h4 hBr hWr hIV k4 hi;go_wp2_with(go_at_call 35;refine hst.mono ?_;rintro e w9 ⟨rfl,vr9,vt9,vrs9,hR9,hK9⟩);go_roundw
    case rel=>exact⟨i+1,Yx F s,vr9,vt9,vrs9,ZN,hfu,hR9,HI2.out,HK4.out.trans hK9⟩
    case measure=>simp[intOf];omega
  · have hfin:Yf F fuel (YR F I)=s:=by
     rw[← hIV.out.2];cases he:s.ended
     · rw[show fuel-i=0 by
        have:¬i<fuel:=fun h=>hlt ⟨h,he⟩
        omega]
       rfl
     · exact Ypk he
    have HFIN:=Lh hfin;have hob:=HO5.out.below hBr ZO;obtain⟨At,ct,rfl⟩:=Yh h4.tr;have hc:wr.rangeAt nb 9 ([.int .i64 s.ending,.int .i64 s.value,.int .i64 s.trap,.slice At s.trace.length ct,.int .i64 s.steps,.int .i64 (ith s.checks 0),.int .i64 (ith s.checks 1),.int .i64 (ith s.checks 2),.int .i64 (ith s.checks 3),.int .i64 (ith s.checks 4),.int .i64 (ith s.checks 5),.int .i64 (ith s.checks 6),.int .i64 (ith s.checks 7)]:List Value):=by
     have:=World.rangeAt_of_block (w:=wr) (b:=nb) h4.box 9 13;simpa[YbH]using this
    have ht:wr.there (w.heap.size+1+1) 0 ([.int .i64 s.ending,.int .i64 s.value,.int .i64 s.trap,.slice At s.trace.length ct,.int .i64 s.steps,.int .i64 (ith s.checks 0),.int .i64 (ith s.checks 1),.int .i64 (ith s.checks 2),.int .i64 (ith s.checks 3),.int .i64 (ith s.checks 4),.int .i64 (ith s.checks 5),.int .i64 (ith s.checks 6),.int .i64 (ith s.checks 7)]:List Value).toArray.size:=fun j hj=>by
     rw[Nat.zero_add,hob.cell j];refine⟨?_,hob.frozen j⟩;have hj':j<13:=hj;simp[hj']
    have HSM:=Lh (World.rangeAt_setCells_same wr (w.heap.size+1+1) 0 [.int .i64 s.ending,.int .i64 s.value,.int .i64 s.trap,.slice At s.trace.length ct,.int .i64 s.steps,.int .i64 (ith s.checks 0),.int .i64 (ith s.checks 1),.int .i64 (ith s.checks 2),.int .i64 (ith s.checks 3),.int .i64 (ith s.checks 4),.int .i64 (ith s.checks 5),.int .i64 (ith s.checks 6),.int .i64 (ith s.checks 7)] ht);have hu:=Tryz.underlying47;have hin:(Tryz.prog.info? 47).map (·.size)=some ([.int .i64 s.ending,.int .i64 s.value,.int .i64 s.trap,.slice At s.trace.length ct,.int .i64 s.steps,.int .i64 (ith s.checks 0),.int .i64 (ith s.checks 1),.int .i64 (ith s.checks 2),.int .i64 (ith s.checks 3),.int .i64 (ith s.checks 4),.int .i64 (ith s.checks 5),.int .i64 (ith s.checks 6),.int .i64 (ith s.checks 7)]:List Value).length:=by kernel_rfl
    have hne2:∀k,(Value.slice At s.trace.length ct).ownBlock=some k→k≠w.heap.size+1+1:=fun k hk e=>h4.dt k hk (by show k<w5.heap.size;omega)
    have HRW:=Lh (Ych (w':=wr.setCells (w.heap.size+1+1) 0 [.int .i64 s.ending,.int .i64 s.value,.int .i64 s.trap,.slice At s.trace.length ct,.int .i64 s.steps,.int .i64 (ith s.checks 0),.int .i64 (ith s.checks 1),.int .i64 (ith s.checks 2),.int .i64 (ith s.checks 3),.int .i64 (ith s.checks 4),.int .i64 (ith s.checks 5),.int .i64 (ith s.checks 6),.int .i64 (ith s.checks 7)]) h4.tr (fun k hk=>Ydz (hne2 k hk) _ _ _));have HBE:=Lh (Yeq (b:=w.heap.size+1+1) (by omega:w.heap.size≤w.heap.size+1+1) [.int .i64 s.ending,.int .i64 s.value,.int .i64 s.trap,.slice At s.trace.length ct,.int .i64 s.steps,.int .i64 (ith s.checks 0),.int .i64 (ith s.checks 1),.int .i64 (ith s.checks 2),.int .i64 (ith s.checks 3),.int .i64 (ith s.checks 4),.int .i64 (ith s.checks 5),.int .i64 (ith s.checks 6),.int .i64 (ith s.checks 7)] 0 wr hWr)
    have h1c:([.int .i64 s.ending,.int .i64 s.value,.int .i64 s.trap,.slice At s.trace.length ct,.int .i64 s.steps,.int .i64 (ith s.checks 0),.int .i64 (ith s.checks 1),.int .i64 (ith s.checks 2),.int .i64 (ith s.checks 3),.int .i64 (ith s.checks 4),.int .i64 (ith s.checks 5),.int .i64 (ith s.checks 6),.int .i64 (ith s.checks 7)]:List Value).toArray.all (·.oneCell')=true:=all_oneCell_toArray (by
     intro u hu;simp only[List.mem_cons,List.not_mem_nil,or_false]at hu
     rcases hu with rfl|rfl|rfl|rfl|rfl|rfl|rfl|rfl|rfl|rfl|rfl|rfl|rfl<;>rfl)
    have hol:=hob.lt;clear hne2 hob h4 hBr k4 hWr
    by_cases hif:i<fuel
    · as_aux_lemma=>
       have hen:s.ended=true:=by
        cases he:s.ended
        · exact absurd ⟨hif,he⟩ hlt
        · rfl
       rw[hen]at z22;have hik:(i:Int)<(fuel:Int):=by omega
       clear hlt hIV hfin hen
       go_upto_region 6 with fail
       go_wp2_with(first|(refine wpList_load_mid rfl 47 _ rfl nb 9 rfl [.int .i64 s.ending,.int .i64 s.value,.int .i64 s.trap,.slice At s.trace.length ct,.int .i64 s.steps,.int .i64 (ith s.checks 0),.int .i64 (ith s.checks 1),.int .i64 (ith s.checks 2),.int .i64 (ith s.checks 3),.int .i64 (ith s.checks 4),.int .i64 (ith s.checks 5),.int .i64 (ith s.checks 6),.int .i64 (ith s.checks 7)] _ hc hu rfl hin ?_)|(refine wpList_store_mid rfl 47 _ _ rfl (w.heap.size+1+1) 0 ([.int .i64 s.ending,.int .i64 s.value,.int .i64 s.trap,.slice At s.trace.length ct,.int .i64 s.steps,.int .i64 (ith s.checks 0),.int .i64 (ith s.checks 1),.int .i64 (ith s.checks 2),.int .i64 (ith s.checks 3),.int .i64 (ith s.checks 4),.int .i64 (ith s.checks 5),.int .i64 (ith s.checks 6),.int .i64 (ith s.checks 7)]:List Value).toArray rfl rfl ht hin h1c ?_));have z0:=HSM.out 0 _ rfl;have z1:=HSM.out 1 _ rfl;have z2:=HSM.out 2 _ rfl;have z3:=HSM.out 3 _ rfl;have z4:=HSM.out 4 _ rfl;have z5:=HSM.out 5 _ rfl;have z6:=HSM.out 6 _ rfl;have z7:=HSM.out 7 _ rfl;have z8:=HSM.out 8 _ rfl;have z9:=HSM.out 9 _ rfl;have z10:=HSM.out 10 _ rfl;have z11:=HSM.out 11 _ rfl;have z12:=HSM.out 12 _ rfl;simp only[Nat.zero_add]at z0 z1 z2 z3 z4 z5 z6 z7 z8 z9 z10 z11 z12;(try simp only[Exit.inBlock,Exit.then]);refine bodyPost_ret (v:=YG s (.slice At s.trace.length ct)) ?_ rfl ?_
       · obtain⟨W9,hW9⟩:∃W9:World,W9=wr.setCells (w.heap.size+1+1) 0 ([.int .i64 s.ending,.int .i64 s.value,.int .i64 s.trap,.slice At s.trace.length ct,.int .i64 s.steps,.int .i64 (ith s.checks 0),.int .i64 (ith s.checks 1),.int .i64 (ith s.checks 2),.int .i64 (ith s.checks 3),.int .i64 (ith s.checks 4),.int .i64 (ith s.checks 5),.int .i64 (ith s.checks 6),.int .i64 (ith s.checks 7)]:List Value).toArray.toList:=⟨_,rfl⟩
         rw[← hW9];replace hW9:W9=wr.setCells (w.heap.size+1+1) 0 [.int .i64 s.ending,.int .i64 s.value,.int .i64 s.trap,.slice At s.trace.length ct,.int .i64 s.steps,.int .i64 (ith s.checks 0),.int .i64 (ith s.checks 1),.int .i64 (ith s.checks 2),.int .i64 (ith s.checks 3),.int .i64 (ith s.checks 4),.int .i64 (ith s.checks 5),.int .i64 (ith s.checks 6),.int .i64 (ith s.checks 7)]:=hW9;rw[← hW9]at z0 z1 z2 z3 z4 z5 z6 z7 z8 z9 z10 z11 z12;clear hW9 HSM ht;simp[YG,results,Tryz.results24,go_sem,z0,z1,z2,z3,z4,z5,z6,z7,z8,z9,z10,z11,z12]
       · unfold Yfe
         rw[HFIN.out];exact⟨_,rfl,HRW.out,HBE.out⟩
    · as_aux_lemma=>
       have hik:decide ((i:Int)<(fuel:Int))=false:=decide_eq_false ZO;have hik2:decide (i<fuel)=false:=decide_eq_false hif;clear hlt hIV hfin
       go_upto_region 6 with fail
       go_wp2_with(first|(refine wpList_load_mid rfl 47 _ rfl nb 9 rfl [.int .i64 s.ending,.int .i64 s.value,.int .i64 s.trap,.slice At s.trace.length ct,.int .i64 s.steps,.int .i64 (ith s.checks 0),.int .i64 (ith s.checks 1),.int .i64 (ith s.checks 2),.int .i64 (ith s.checks 3),.int .i64 (ith s.checks 4),.int .i64 (ith s.checks 5),.int .i64 (ith s.checks 6),.int .i64 (ith s.checks 7)] _ hc hu rfl hin ?_)|(refine wpList_store_mid rfl 47 _ _ rfl (w.heap.size+1+1) 0 ([.int .i64 s.ending,.int .i64 s.value,.int .i64 s.trap,.slice At s.trace.length ct,.int .i64 s.steps,.int .i64 (ith s.checks 0),.int .i64 (ith s.checks 1),.int .i64 (ith s.checks 2),.int .i64 (ith s.checks 3),.int .i64 (ith s.checks 4),.int .i64 (ith s.checks 5),.int .i64 (ith s.checks 6),.int .i64 (ith s.checks 7)]:List Value).toArray rfl rfl ht hin h1c ?_));have z0:=HSM.out 0 _ rfl;have z1:=HSM.out 1 _ rfl;have z2:=HSM.out 2 _ rfl;have z3:=HSM.out 3 _ rfl;have z4:=HSM.out 4 _ rfl;have z5:=HSM.out 5 _ rfl;have z6:=HSM.out 6 _ rfl;have z7:=HSM.out 7 _ rfl;have z8:=HSM.out 8 _ rfl;have z9:=HSM.out 9 _ rfl;have z10:=HSM.out 10 _ rfl;have z11:=HSM.out 11 _ rfl;have z12:=HSM.out 12 _ rfl;simp only[Nat.zero_add]at z0 z1 z2 z3 z4 z5 z6 z7 z8 z9 z10 z11 z12;(try simp only[Exit.inBlock,Exit.then]);refine bodyPost_ret (v:=YG s (.slice At s.trace.length ct)) ?_ rfl ?_
       · obtain⟨W9,hW9⟩:∃W9:World,W9=wr.setCells (w.heap.size+1+1) 0 ([.int .i64 s.ending,.int .i64 s.value,.int .i64 s.trap,.slice At s.trace.length ct,.int .i64 s.steps,.int .i64 (ith s.checks 0),.int .i64 (ith s.checks 1),.int .i64 (ith s.checks 2),.int .i64 (ith s.checks 3),.int .i64 (ith s.checks 4),.int .i64 (ith s.checks 5),.int .i64 (ith s.checks 6),.int .i64 (ith s.checks 7)]:List Value).toArray.toList:=⟨_,rfl⟩
         rw[← hW9];replace hW9:W9=wr.setCells (w.heap.size+1+1) 0 [.int .i64 s.ending,.int .i64 s.value,.int .i64 s.trap,.slice At s.trace.length ct,.int .i64 s.steps,.int .i64 (ith s.checks 0),.int .i64 (ith s.checks 1),.int .i64 (ith s.checks 2),.int .i64 (ith s.checks 3),.int .i64 (ith s.checks 4),.int .i64 (ith s.checks 5),.int .i64 (ith s.checks 6),.int .i64 (ith s.checks 7)]:=hW9;rw[← hW9]at z0 z1 z2 z3 z4 z5 z6 z7 z8 z9 z10 z11 z12;clear hW9 HSM ht;simp[YG,results,Tryz.results24,go_sem,z0,z1,z2,z3,z4,z5,z6,z7,z8,z9,z10,z11,z12]
       · unfold Yfe
         rw[HFIN.out];exact⟨_,rfl,HRW.out,HBE.out⟩
set_option maxHeartbeats 4000000 in
theorem Ypl{W w:World}{s:RSt}{k:Int}{A A':Option Addr}{c c':Nat}(h:Rd W.heap.size A s.trace 1 (Yi W))(h':Rd W.heap.size A' s.trace 1 (Yi W))(hW:Below W.heap.size W w)(hl:s.trace.length≤281474976710656) :
 Calls Tryz.prog 25 #[YG s (.slice A s.trace.length c),YG { s with steps:=k } (.slice A' s.trace.length c')] w fun e w'=>e=.returned (.bool true)∧Below w.heap.size w w':=by
 unfold YG;obtain⟨b0,hb0⟩:∃b0:Array Value,b0=#[.int .i64 s.ending,.int .i64 s.value,.int .i64 s.trap,.slice A s.trace.length c,.int .i64 s.steps,.int .i64 (ith s.checks 0),.int .i64 (ith s.checks 1),.int .i64 (ith s.checks 2),.int .i64 (ith s.checks 3),.int .i64 (ith s.checks 4),.int .i64 (ith s.checks 5),.int .i64 (ith s.checks 6),.int .i64 (ith s.checks 7)]:=⟨_,rfl⟩;obtain⟨b1,hb1⟩:∃b1:Array Value,b1=#[.int .i64 s.ending,.int .i64 s.value,.int .i64 s.trap,.slice A' s.trace.length c',.int .i64 k,.int .i64 (ith s.checks 0),.int .i64 (ith s.checks 1),.int .i64 (ith s.checks 2),.int .i64 (ith s.checks 3),.int .i64 (ith s.checks 4),.int .i64 (ith s.checks 5),.int .i64 (ith s.checks 6),.int .i64 (ith s.checks 7)]:=⟨_,rfl⟩;have hbb:Below w.heap.size w ((w.alloc (.cells b0 47)).alloc (.cells b1 47)):=BL;obtain⟨wb,hwb⟩:∃wb,wb=((w.alloc (.cells b0 47)).alloc (.cells b1 47)):=⟨_,rfl⟩;have x0:BoxAt wb w.heap.size b0 47:=by rw[hwb];exact(BoxAt.new _ _ _).alloc _
 have x1:BoxAt wb (w.heap.size+1) b1 47:=by
  rw[hwb];have:=BoxAt.new (w.alloc (.cells b0 47)) b1 47;simpa using this
 rw[← hwb]at hbb;rw[hb0]at x0;rw[hb1]at x1;rw[hb0,hb1]at hwb;clear hb0 hb1;have z0:=x0.cell 0;have z1:=x0.cell 1;have z2:=x0.cell 2;have z3:=x0.cell 3;have y0:=x1.cell 0;have y1:=x1.cell 1;have y2:=x1.cell 2;have y3:=x1.cell 3;have l0:=x0.lt;have l1:=x1.lt;simp at z0 z1 z2 z3 y0 y1 y2 y3;go_enter Tryz.func25,Tryz.ntmps25
 go_upto_region 1 with fail
 rw[← hwb];clear hwb;go_wp2_with fail;clear z0 z1 z2 z3 y0 y1 y2 y3 l0 l1
 go_loopw[37] (fun i wr=>∃n:Nat,i=.int .i64 n∧n≤s.trace.length∧Below wb.heap.size wb wr) (fun i _=>s.trace.length-(intOf i).toNat)
 case atStart=>exact⟨0,rfl,Nz _,Br _ _⟩
 case round=>as_aux_lemma=>
  obtain⟨n,rfl,hn,hb⟩:=hrel;have hB:=hbb.trans (hb.mono hbb.size);have hWr:=hW.trans (hB.mono hW.size);have v0:=x0.below hb x0.lt;have v1:=x1.below hb x1.lt;have q0:=v0.cell 3;have q1:=v1.cell 3;have l0:=v0.lt;have l1:=v1.lt;simp at q0 q1
  by_cases hlt:n<s.trace.length
  · obtain⟨b,off,rfl,hbl,hc⟩:=h.int hWr hlt
    obtain⟨b2,off2,rfl,hbl2,hc2⟩:=h'.int hWr hlt;go_wp2_with fail
    go_quiet (fail)
    go_wp2_with fail;go_roundw
    case rel=>exact⟨n+1,ZN,ZO,bdrewN hb _⟩
    case measure=>simp[intOf];omega
  · go_wp2
    go_ret;exact⟨rfl,hB⟩
def Ym(s:RSt)(vt:Value):List Value:=[.int .i64 s.ending,.int .i64 s.value,.int .i64 s.trap,vt,.int .i64 s.steps,.int .i64 (ith s.checks 0),.int .i64 (ith s.checks 1),.int .i64 (ith s.checks 2),.int .i64 (ith s.checks 3),.int .i64 (ith s.checks 4),.int .i64 (ith s.checks 5),.int .i64 (ith s.checks 6),.int .i64 (ith s.checks 7)]
def Yac:Array Value:=#[.int .i64 0,.int .i64 0,.int .i64 0,.slice none 0 0,.int .i64 0,.int .i64 0,.int .i64 0,.int .i64 0,.int .i64 0,.int .i64 0,.int .i64 0,.int .i64 0,.int .i64 0]
theorem YdA{P:Program}{ops:Array Oper}{rest:List Oper}{op:Oper}{a:Act}{w:World}{Q:Exit→Act→World→Prop}(hw:Region.wanted op (yielded ops a.tmps)=true)(ty:TypeId)(x:Operand)(ho:op.op=.load ty x)(b o:Nat)(hx:a.eval x=.pointer (some ⟨b,o,none⟩))
 (cs:List Value) (d:TypeDesc) (hc:w.rangeAt b o cs) (hu:P.underlying ty=some d) (hd:d.isRow=true) (hi:(P.info? ty).map (·.size)=some cs.length) (h:wpList P ops Q rest (a.put op.dst (.agg cs.toArray)) w):wpList P ops Q (op::rest) a w:=by
 unfold wpList;rw[if_pos hw];exact .inl (wp_load_mid ty x ho b o hx cs d hc hu hd hi h)
theorem Ypm{s:RSt}{vt:Value}{n:Nat}(h:n<8):(Ym s vt)[5+n]?=some (.int .i64 (ith s.checks n)):=by
 match n,h with
 |0,_=>rfl
 |1,_=>rfl
 |2,_=>rfl
 |3,_=>rfl
 |4,_=>rfl
 |5,_=>rfl
 |6,_=>rfl
 |7,_=>rfl
 |k+8,h=>omega
theorem YdB(s:RSt)(vt:Value)(h:vt.oneCell'=true):(Ym s vt).toArray.all (·.oneCell')=true:=all_oneCell_toArray (by
 intro u hu;simp only[Ym,List.mem_cons,List.not_mem_nil,or_false]at hu
 rcases hu with rfl|rfl|rfl|rfl|rfl|rfl|rfl|rfl|rfl|rfl|rfl|rfl|rfl<;>first|rfl|exact h)
structure OutAt (w:World) (b:Nat) (s:RSt) (A:Option Addr) (c:Nat):Prop where
 lt:b<w.heap.size
 rng:w.rangeAt b 0 (Ym s (.slice A s.trace.length c))
 own:w.ownsRow 0 2 1 (.slice A s.trace.length c) s.trace.length (s.trace.map (Value.int .i64))
theorem OutAt.below{w w':World}{b:Nat}{s:RSt}{A:Option Addr}{c:Nat}(h:OutAt w b s A c)(hb:Below w.heap.size w w'):OutAt w' b s A c:=
 ⟨Nt h.lt hb.size,fun j v hv=>(hb.cell (p:=⟨b,0+j,none⟩) h.lt).trans (h.rng j v hv),Yl h.own hb⟩
theorem OutAt.e0{w:World}{b:Nat}{s:RSt}{A:Option Addr}{c:Nat}(h:OutAt w b s A c):w.cell? ⟨b,0,none⟩=some (.int .i64 s.ending):=h.rng 0 _ rfl
theorem OutAt.e4{w:World}{b:Nat}{s:RSt}{A:Option Addr}{c:Nat}(h:OutAt w b s A c):w.cell? ⟨b,4,none⟩=some (.int .i64 s.steps):=h.rng 4 _ rfl
theorem OutAt.rd{w:World}{b:Nat}{s:RSt}{A:Option Addr}{c:Nat}(h:OutAt w b s A c):Rd w.heap.size A s.trace 1 (Yi w):=(Rd.of_own h.own).2.2
theorem YgS{w:World}{B e g n:Nat}{v:Value}{xs:List Value}{cs:Array Value}{t:TypeId}(h:w.ownsRow B e 1 v n xs)(hb:BoxAt w g cs t)(hne:e≠t):∀k,v.ownBlock=some k→k≠g:=by
 intro k hk e2;subst e2;rcases h.2 with⟨rfl,-⟩|⟨g',cap,cur,rfl,_,hh,_⟩
 · cases hk
 · simp only[Value.ownBlock,Option.some.injEq]at hk
   subst hk;unfold BoxAt at hb;rw[hb]at hh;simp only[Option.some.injEq,Obj.cells.injEq]at hh;exact hne hh.2.1.symm
theorem Yc5{w:World}{g n:Nat}{cs:Array Value}{t:TypeId}(h:BoxAt w g cs t)(hn:n=cs.size):w.there g 0 n:=fun j hj=>by
 rw[Nat.zero_add,h.cell j,h.frozen j];refine⟨?_,rfl⟩;rw[Array.getElem?_eq_getElem ZO];rfl
theorem YgT(b:Nat):∀(vs:List Value) (o:Nat) (w:World),(w.setCells b o vs).heap.size=w.heap.size
 |[],_,_=>rfl
 |v::r,o,w=>by rw[World.setCells,YgT b r];simp
theorem OutAt.store{w:World}{g:Nat}{s:RSt}{A:Option Addr}{c:Nat}(hb:BoxAt w g Yac 47)(ho:w.ownsRow 0 2 1 (.slice A s.trace.length c) s.trace.length (s.trace.map (Value.int .i64))) :
 OutAt (w.setCells g 0 (Ym s (.slice A s.trace.length c))) g s A c:=
 ⟨by rw[YgT];exact hb.lt,World.rangeAt_setCells_same _ _ _ _ (Yc5 hb rfl),Ych ho fun _ hk=>Ydz (YgS ho hb ZD _ hk) _ _ _⟩
theorem OutAt.other{w:World}{b g:Nat}{s:RSt}{A:Option Addr}{c:Nat}(h:OutAt w b s A c)(hb:BoxAt w g Yac 47)(hne:b≠g)(L:List Value):OutAt (w.setCells g 0 L) b s A c:=
 ⟨by rw[YgT];exact h.lt,World.rangeAt_setCells_apart h.rng _ _ _ (.inl hne),Ych h.own fun _ hk=>Ydz (YgS h.own hb ZD _ hk) _ _ _⟩
theorem BoxAt.otherC{w:World}{b g:Nat}{cs:Array Value}{t:TypeId}(h:BoxAt w b cs t)(hne:b≠g)(L:List Value):BoxAt (w.setCells g 0 L) b cs t:=(Ydz hne L 0 w).trans h
theorem Ypn{w:World}{B e g n:Nat}{v:Value}{xs:List Value}(h:w.ownsRow B e 1 v n xs)(hb:BoxAt w g Yac 47)(hne:e≠47)(L:List Value):(w.setCells g 0 L).ownsRow B e 1 v n xs:=Ych h fun _ hk=>Ydz (YgS h hb hne _ hk) _ _ _
theorem YaF(s:RSt)(vt:Value):(Tryz.prog.info? 47).map (·.size)=some (Ym s vt).length:=by kernel_rfl
set_option maxHeartbeats 4000000 in
theorem Ypo{w:World}{s:RSt}{k:Int}{sm:Bool}{A A':Option Addr}{c c':Nat} :
 Calls Tryz.prog 50 #[YG s (.slice A s.trace.length c),YG { s with steps:=k } (.slice A' s.trace.length c'),.bool sm] w fun e w'=>e=.returned (.bool true)∧Below w.heap.size w w':=by
 have h0:YG s (.slice A s.trace.length c)=.agg (Ym s (.slice A s.trace.length c)).toArray:=rfl;have h1:YG { s with steps:=k } (.slice A' s.trace.length c')=.agg (Ym { s with steps:=k } (.slice A' s.trace.length c')).toArray:=rfl;obtain⟨wb,hwb⟩:∃wb,wb=((w.alloc (.cells (Ym s (.slice A s.trace.length c)).toArray 47)).alloc (.cells (Ym { s with steps:=k } (.slice A' s.trace.length c')).toArray 47)):=⟨_,rfl⟩;have hbb:Below w.heap.size w wb:=by rw[hwb];exact BL
 have x0:BoxAt wb w.heap.size (Ym s (.slice A s.trace.length c)).toArray 47:=by rw[hwb];exact(BoxAt.new _ _ _).alloc _
 have x1:BoxAt wb (w.heap.size+1) (Ym { s with steps:=k } (.slice A' s.trace.length c')).toArray 47:=by
  rw[hwb];have:=BoxAt.new (w.alloc (.cells (Ym s (.slice A s.trace.length c)).toArray 47)) (Ym { s with steps:=k } (.slice A' s.trace.length c')).toArray 47;simpa using this
 have HX0:=Lh x0;have HX1:=Lh x1;clear x0 x1;unfold YG;unfold Ym at hwb;clear h0 h1;go_enter Tryz.func50,Tryz.ntmps50
 go_upto_region 1 with fail
 rw[← hwb];clear hwb;go_wp2_with fail
 go_loopw[8] (fun i wr=>∃n:Nat,i=.int .i64 n∧n≤8∧Below wb.heap.size wb wr) (fun i _=>8-(intOf i).toNat)
 case atStart=>exact⟨0,rfl,Nz _,Br _ _⟩
 case round=>as_aux_lemma=>
  obtain⟨n,rfl,hn,hb⟩:=hrel;have hB:=hbb.trans (hb.mono hbb.size);have v0:=HX0.out.below hb HX0.out.lt;have v1:=HX1.out.below hb HX1.out.lt
  by_cases hlt:n<8
  · as_aux_lemma=>
    have q0:=v0.cell (5+n);have q1:=v1.cell (5+n);rw[List.getElem?_toArray,Ypm hlt]at q0 q1;have q1':wr.cell? ⟨w.heap.size+1,5+n,none⟩=some (.int .i64 (ith s.checks n)):=q1;obtain⟨c,hc⟩:∃c:Int,c=ith s.checks n:=⟨_,rfl⟩;rw[← hc]at q0 q1';have l0:=v0.lt;have l1:=v1.lt;have d0:decide (c<c)=false:=decide_eq_false (Int.lt_irrefl _);have d1:(c !=c)=false:=by simp
    clear q1 v0 v1 hc HX0 HX1;cases sm
    · as_aux_lemma=>
      go_wp2_with fail;obtain⟨S0,hS0⟩:∃S0:World→Prop,S0=fun w'=>w'.cell? ⟨w.heap.size,5+n,none⟩=some (.int .i64 c)∧w'.cell? ⟨w.heap.size+1,5+n,none⟩=some (.int .i64 c)∧w.heap.size<w'.heap.size∧w.heap.size+1<w'.heap.size∧Below wb.heap.size wb w':=⟨_,rfl⟩
      have HS0:=Lh hS0;clear hS0;have k0:=fun xw=>(WS.at HS0 xw).1
      have k1:=fun xw=>(WS.at HS0 xw).2.1
      have k2:=fun xw=>(WS.at HS0 xw).2.2.1
      have k3:=fun xw=>(WS.at HS0 xw).2.2.2.1
      have k4:=fun xw=>(WS.at HS0 xw).2.2.2.2
      refine YB (S:=S0) [0,1,2,3,4,5,6,7,8,9,10,11,12,13,14,15,16,17,18,19,20,21,22] ZK ZK (fun _ _ _ _ _ h=>h) ?hS (fun hSc=>?_)
      case hS=>
       rw[HS0.out];exact⟨ZI,ZI,ZJ,ZJ,BL⟩
      have hne0:Nonempty (WS S0):=⟨⟨_,hSc⟩⟩;simp only[List.map_cons,List.map_nil,Ld,Le]
      repeat
       first
       |((with_reducible refine YC ?_ ?_);exact rfl;go_big_quiet_step (fail);(try with_reducible refine wpQuiet_nil ?_);(try dsimp only))
      refine YD ?_;rw[HS0.out]at hSc;obtain⟨p0,p1,p2,p3,p4⟩:=hSc;clear hne0 HS0 k0 k1 k2 k3 k4;go_wp2_with fail;go_roundw
      case rel=>exact⟨n+1,ZN,ZO,p4⟩
      case measure=>simp[intOf];omega
    · as_aux_lemma=>
      go_wp2_with fail;obtain⟨S0,hS0⟩:∃S0:World→Prop,S0=fun w'=>w'.cell? ⟨w.heap.size,5+n,none⟩=some (.int .i64 c)∧w'.cell? ⟨w.heap.size+1,5+n,none⟩=some (.int .i64 c)∧w.heap.size<w'.heap.size∧w.heap.size+1<w'.heap.size∧Below wb.heap.size wb w':=⟨_,rfl⟩
      have HS0:=Lh hS0;clear hS0;have k0:=fun xw=>(WS.at HS0 xw).1
      have k1:=fun xw=>(WS.at HS0 xw).2.1
      have k2:=fun xw=>(WS.at HS0 xw).2.2.1
      have k3:=fun xw=>(WS.at HS0 xw).2.2.2.1
      have k4:=fun xw=>(WS.at HS0 xw).2.2.2.2
      refine YB (S:=S0) [0,1,2,3,4,5,6,7,8,9,10,11,12,13,14,15,16,17,18,19,20,21,22] ZK ZK (fun _ _ _ _ _ h=>h) ?hS (fun hSc=>?_)
      case hS=>
       rw[HS0.out];exact⟨ZI,ZI,ZJ,ZJ,BL⟩
      have hne0:Nonempty (WS S0):=⟨⟨_,hSc⟩⟩;simp only[List.map_cons,List.map_nil,Ld,Le]
      repeat
       first
       |((with_reducible refine YC ?_ ?_);exact rfl;go_big_quiet_step (fail);(try with_reducible refine wpQuiet_nil ?_);(try dsimp only))
      refine YD ?_;rw[HS0.out]at hSc;obtain⟨p0,p1,p2,p3,p4⟩:=hSc;clear hne0 HS0 k0 k1 k2 k3 k4;go_wp2_with fail;go_roundw
      case rel=>exact⟨n+1,ZN,ZO,p4⟩
      case measure=>simp[intOf];omega
  · have h8:n=8:=by omega
    subst h8;go_wp2;go_ret;exact⟨rfl,hB⟩
theorem Ypp{bs:List PBlock}{i:Nat}{b:PBlock}(h:bs[i]?=some b):Yo (bs.take (i+1))=Yo (bs.take i)+(b.phis.length+b.insts.length):=by
 induction bs generalizing i with
 |nil=>simp at h
 |cons a r ih=>
  cases i with
  |zero=>
   simp only[List.getElem?_cons_zero,Option.some.injEq]at h;subst h;simp[Yo]
  |succ i=>
   have:=ih (i:=i) (by simpa using h);rw[List.take_succ_cons,List.take_succ_cons,Yo,Yo,this];omega
theorem Ypq{bs:List PBlock}{i:Nat}:Yo (bs.take i)≤Yo bs:=by
 induction bs generalizing i with
 |nil=>simp
 |cons a r ih=>
  cases i with
  |zero=>simp[Yo]
  |succ i=>
   have:=ih (i:=i);rw[List.take_succ_cons,Yo,Yo];omega
set_option maxHeartbeats 2000000 in
theorem Ypr{W w:World}{fv:Value}{F:PFunc}(hF:FnV W W.heap.size fv F)(hW:Below W.heap.size W w)(hs:Yo F.blocks≤1024) :
 Calls Tryz.prog 32 #[fv] w fun e w'=>e=.returned (.int .i64 (Yo F.blocks:Nat))∧Below w.heap.size w w':=by
 obtain⟨A0,c0,A1,c1,A2,c2,rfl,l0,l1,l2,-,-,-,r0,r1,r2⟩:=id hF.open_;clear hF r0 r1;unfold Len at *;have hWs:=hW.size;have hb0:=(Br w.heap.size w).alloc (Nr _) (.cells #[.slice A0 F.vars.length c0,.slice A1 F.params.length c1,.slice A2 F.blocks.length c2] 26);go_enter Tryz.func32,Tryz.ntmps32;go_wp2
 go_loopw[9,3] (fun i m wr=>∃n:Nat,i=.int .i64 n∧m=.int .i64 (Yo (F.blocks.take n):Nat)∧n≤F.blocks.length∧Below w.heap.size w wr) (fun i _ _=>F.blocks.length-(intOf i).toNat)
 case atStart=>exact⟨0,rfl,rfl,Nz _,hb0⟩
 case round=>as_aux_lemma=>
  clear hb0;obtain⟨n,rfl,rfl,hn,hB⟩:=hrel;have hWr:Below W.heap.size W wr:=hW.trans (hB.mono hWs)
  by_cases hlt:n<F.blocks.length
  · as_aux_lemma=>
    obtain⟨bb,off,A3,c3,A4,c4,rfl,hbb,hnz,hy0,hy1,hy2,hy3,hy4,hy5,hy6,l3,l4,k3,k4,r3,r4⟩:=r2.blk hWr hlt;unfold Len at l3 l4;have hst:=Ypp (PFunc.blk_get hlt);have hle:=Ypq (bs:=F.blocks) (i:=n+1);have hws:=hB.size;have HB2:=Lh (hB.alloc hws (.cells #[.string (F.blk n).name,.slice A3 (F.blk n).phis.length c3,.slice A4 (F.blk n).insts.length c4,.int .i64 (F.blk n).term.kind,.int .i64 (F.blk n).term.var,.int .i64 (F.blk n).term.t0,.int .i64 (F.blk n).term.t1] 62));have w1:wrap64 ((Yo (F.blocks.take n):Int)+((F.blk n).phis.length:Int))=((Yo (F.blocks.take n)+(F.blk n).phis.length:Nat):Int):=by unfold wrap64;omega
    have w2:wrap64 (((Yo (F.blocks.take n)+(F.blk n).phis.length:Nat):Int)+((F.blk n).insts.length:Int))=((Yo (F.blocks.take (n+1)):Nat):Int):=by rw[hst];unfold wrap64;omega
    have W3:=Lh (show wrap64 (wrap64 ((Yo (F.blocks.take n):Int)+((F.blk n).phis.length:Int))+((F.blk n).insts.length:Int))=((Yo (F.blocks.take (n+1)):Nat):Int) by rw[w1];exact w2);clear hst hle w1 w2 r3 r4 r2;go_wp2;go_roundw
    case rel=>exact⟨n+1,ZN,congrArg (Value.int .i64) W3.out,ZO,HB2.out⟩
    case measure=>simp[intOf];omega
  · have hfin:n=F.blocks.length:=by omega
    subst hfin;rw[List.take_length];go_wp2;go_ret;exact⟨rfl,hB⟩
end Go.Proofs.YthhjlbflpjhahaaGreatDoor
