/- The walk of merge.Merge. -/
import Derived.Test.YtjlclkcmfokobaaGreatDoorMrgCZ
import Derived.Test.YtjlclkcmfokobaaGreatDoorMgPZ
import Derived.Test.YtjlclkcmfokobaaGreatDoorCopyZ
import Derived.Test.YtjlclkcmfokobaaGreatDoorFewQZ
import Derived.Test.YtjlclkcmfokobaaGreatDoorMgQZ
import Derived.Test.YtjlclkcmfokobaaGreatDoorGraphZ
namespace Go.Proofs.YtjlclkcmfokobaaGreatDoor
open Go.RowKit
set_option maxRecDepth 100000
def YbK(f:PBlock→PBlock)(l:List PBlock)(i:Nat):List PBlock:=(l.take i).map f++l.drop i
section
variable {f:PBlock→PBlock} {F:PFunc} {i:Nat} {qs:List (PBlock×Value×Value)}
theorem YoH(hi:i<F.blocks.length)(h:qs.map Prod.fst=YbK f F.blocks i):∃v1 v2,qs[i]?=some (F.blk i,v1,v2):=by
 have h1:=congrArg (·[i]?) h;simp only[List.getElem?_map,YbK]at h1;rw[List.getElem?_append_right ZX]at h1;have hm:min i F.blocks.length=i:=by omega
 simp only[List.length_map,List.length_take,hm,Nat.sub_self,List.getElem?_drop,Nat.add_zero,PFunc.blk_get hi]at h1;obtain⟨⟨b,v1,v2⟩,hq,e⟩:=Option.map_eq_some_iff.1 h1;simp only at e;exact⟨v1,v2,by rw[hq,e]⟩
theorem YoI(hi:i<F.blocks.length)(h:qs.map Prod.fst=YbK f F.blocks i){v3 v4:Value}:(qs.set i (f (F.blk i),v3,v4)).map Prod.fst=YbK f F.blocks (i+1):=by
 rw[List.map_set,h];unfold YbK;have h1:((F.blocks.take i).map f).length=i:=by simp;omega
 rw[List.set_append_right _ _ ZO,h1,Nat.sub_self,List.drop_eq_getElem_cons hi,Lz,List.take_add_one,PFunc.blk_get hi,Option.toList_some,List.map_append,List.append_assoc];rfl
theorem YoJ{l:List PBlock}:YbK f l l.length=l.map f:=by simp[YbK]
theorem YoK(h:qs.map Prod.fst=YbK f F.blocks i):qs.length=F.blocks.length:=by
 have:=congrArg List.length h;simp only[List.length_map,YbK,List.length_append,List.length_take,List.length_drop]at this;omega
end
structure OneI (k:Int→Option Int) (b:PBlock) (at_:Nat) (L:List PInst):Prop where
 le:at_≤L.length
 len:L.length≤b.insts.length
 eq:L.take at_++mrgL k (L.drop at_)=mrgL k b.insts
 ok:∀x∈L,OkI x
 once:OnceL L
section
variable {k:Int→Option Int} {b:PBlock} {at_:Nat} {L:List PInst}
theorem OneI.step(h:OneI k b at_ L)(hl:at_<L.length){S:List PInst×List PInst}(hS:S=mrgS k (L.getD at_ default) (L.drop (at_+1))):OneI k b (at_+S.1.length) (L.take at_++S.1++S.2)∧0<S.1.length:=by
 have hx:L.getD at_ default=L[at_]:=by simp[List.getD,hl]
 have hsp:=YiV hl;have h1:=Ybm (k:=k) (x:=L[at_]) (l:=L.drop (at_+1));have hp:=Ykk (k:=k) (x:=L[at_]) (l:=L.drop (at_+1));rw[hx]at hS;rw[← hS]at h1 hp;have hlt:(L.take at_).length=at_:=by rw[List.length_take];omega
 rw[List.length_drop]at h1;have hlen:=h.len;refine⟨⟨?_,?_,?_,?_,?_⟩,hp⟩
 · rw[List.length_append,List.length_append,hlt]
   omega
 · rw[List.length_append,List.length_append,hlt]
   omega
 · rw[← h.eq,List.take_left' (by rw[List.length_append,hlt]),List.drop_left' (by rw[List.length_append,hlt]),List.drop_eq_getElem_cons hl,Ybn,hS,List.append_assoc]
 · intro y hy
   rw[List.append_assoc]at hy;rcases List.mem_append.1 hy with h2|h2
   · exact h.ok y (List.mem_of_mem_take h2)
   · rw[hS]at h2
     exact OkI.step (h.ok _ (List.getElem_mem hl)) (fun z hz=>h.ok z (List.mem_of_mem_drop hz)) y h2
 · have:=h.once
   rw[hsp]at this;rw[hS];exact this.step
theorem OneI.fin(h:OneI k b L.length L):({ b with insts:=L }:PBlock)=Ybj k b:=by
 have:=h.eq;rw[List.take_length,List.drop_length,YbN,List.append_nil]at this;unfold Ybj;rw[← this]
end
def Ydi(w:World)(F:PFunc)(e:Ending)(w':World):Prop:=
 ((Yao F=false∧e=.returned (.tuple #[.agg #[.slice none 0 0,.slice none 0 0,.slice none 0 0],.int .i64 3]))∨(Yao F=true∧∃v,e=.returned (.tuple #[v,.int .i64 0])∧FnV w' w'.heap.size v (mrgF F)))∧Below w.heap.size w w'
set_option maxHeartbeats 8000000 in
theorem YeJ{W w:World}{fv:Value}{F:PFunc}(hU:Uni W)(hF:FnV W W.heap.size fv F)(hW:Below W.heap.size W w)(hS:YU F)(hN:Bnd F)(hnum:∀b∈F.blocks,∀x∈b.insts,(Lit.int .i64 x.num).wf=true) :
 Calls Tryz.prog 12 #[fv] w (Ydi w F):=by
 have hpl:=fun(w':World) (h:Below W.heap.size W w')=>Yok hU hF h hS hN
 have hWs:=hW.size;have hb2:=fun vs t=>(YO w (.cells vs t)).trans ((YO (w.alloc (.cells vs t)) (.cells #[.slice none 0 0,.slice none 0 0,.slice none 0 0] 26)).mono ZS)
 unfold Ydi;cases hr:Yao F
 · as_aux_lemma=>
   rw[hr]at hpl;clear hr;obtain⟨A0,c0,A1,c1,A2,c2,rfl,-⟩:=id hF.open_;have HB0:=Lh (hb2 #[.slice A0 F.vars.length c0,.slice A1 F.params.length c1,.slice A2 F.blocks.length c2] 26);have HX:=Lh (BoxAt.new (w.alloc (.cells #[.slice A0 F.vars.length c0,.slice A1 F.params.length c1,.slice A2 F.blocks.length c2] 26)) #[.slice none 0 0,.slice none 0 0,.slice none 0 0] 26);have he:((YX false:Int) !=0)=true:=by decide
   clear hF hb2 hnum;go_enter Tryz.func12,Tryz.ntmps12;go_wp2_with fail;refine(hpl _ (hW.trans (HB0.out.mono hWs))).mono ?_;rintro e w9 ⟨rfl,hb9⟩;have HB:=Lh (HB0.out.trans (hb9.mono HB0.out.size));have hx9:=HX.out.below hb9 HX.out.lt;have y0:=hx9.cell 0;have y1:=hx9.cell 1;have y2:=hx9.cell 2;have yl:=hx9.lt;have f0:=hx9.frozen 0;have f1:=hx9.frozen 1;have f2:=hx9.frozen 2;simp at y0 y1 y2 yl f0 f1 f2;have hw1:(w.alloc (.cells #[.slice A0 F.vars.length c0,.slice A1 F.params.length c1,.slice A2 F.blocks.length c2] 26)).heap.size=w.heap.size+1:=by simp
   rw[hw1]at hx9;have HX9:=Lh hx9;clear hb9 hpl hx9;go_wp2;have hz:=HX9.out.set3 (a:=.slice none 0 0) (b:=.slice none 0 0) (c:=.slice none 0 0);have z0:=hz.cell 0;have z1:=hz.cell 1;have z2:=hz.cell 2;simp only[List.getElem?_toArray,List.getElem?_cons_zero,List.getElem?_cons_succ]at z0 z1 z2;have hBz:=((HB.out.setCell (p:=⟨w.heap.size+1,0,none⟩) ZS (.slice none 0 0)).setCell (p:=⟨w.heap.size+1,1,none⟩) ZS (.slice none 0 0)).setCell (p:=⟨w.heap.size+1,2,none⟩) ZS (.slice none 0 0);exact bodyPost_ret (v:=.tuple #[.agg #[.slice none 0 0,.slice none 0 0,.slice none 0 0],.int .i64 3]) (by simp[results,Tryz.results12,go_sem,z0,z1,z2,YX]) rfl ⟨.inl ⟨trivial,rfl⟩,hBz⟩
 · as_aux_lemma=>
   rw[hr]at hpl;have hT:Yd F=true∧Yak F=true:=by
    have:YaD F=true:=by unfold Yao at hr;rw[Bool.and_eq_true]at hr;exact hr.1
    unfold YaD at this;simpa using this
   have hO1:=(show Yr F=true by have h:=hT.2;unfold Yak at h;simp only[Bool.and_eq_true]at h;exact h.1.2);have nv:=Yb5 hT.1;obtain⟨n1,n2⟩:=Y1 (Yx hT.1);have hcp:=fun(w':World) (h:Below W.heap.size W w')=>YoG hF h hN
   obtain⟨A0,c0,A1,c1,A2,c2,rfl,l0,l1,l2,-,-,-,-,-,r2⟩:=id hF.open_;have hx0:=BoxAt.new w #[.slice A0 F.vars.length c0,.slice A1 F.params.length c1,.slice A2 F.blocks.length c2] 26;have HX0:=Lh (hx0.alloc (.cells #[.slice none 0 0,.slice none 0 0,.slice none 0 0] 26));have hx1:=BoxAt.new (w.alloc (.cells #[.slice A0 F.vars.length c0,.slice A1 F.params.length c1,.slice A2 F.blocks.length c2] 26)) #[.slice none 0 0,.slice none 0 0,.slice none 0 0] 26;have hw1:(w.alloc (.cells #[.slice A0 F.vars.length c0,.slice A1 F.params.length c1,.slice A2 F.blocks.length c2] 26)).heap.size=w.heap.size+1:=by simp
   rw[hw1]at hx1;have HX1:=Lh hx1;have HB0:=Lh (hb2 #[.slice A0 F.vars.length c0,.slice A1 F.params.length c1,.slice A2 F.blocks.length c2] 26);have he:((YX true:Int) !=0)=false:=by decide
   have HW:=Lh hW;have HNB:=Lh hN;have HNUM:=Lh hnum;have HNB3:=Lh hN;have HT:=Lh hT;have HO1:=Lh hO1;have hmm:=@run_makeMap Tryz.prog;clear hF hb2 hx0 hx1 hw1 hr hU hW hN hnum hT hO1;go_enter Tryz.func12,Tryz.ntmps12;go_wp2_with fail;refine(hpl _ (HW.out.trans (HB0.out.mono hWs))).mono ?_;rintro e w4 ⟨rfl,hb4⟩;have HB4:=Lh (HB0.out.trans (hb4.mono HB0.out.size));have hx4:=HX0.out.below hb4 HX0.out.lt;have HX4:=Lh hx4;have HY4:=Lh (HX1.out.below hb4 HX1.out.lt);have x0:=hx4.cell 0;have x1:=hx4.cell 1;have x2:=hx4.cell 2;have xl:=hx4.lt;simp at x0 x1 x2;clear hb4 hx4 hpl HX0 HX1 HB0;go_wp2_with fail;refine(hcp _ (HW.out.trans (HB4.out.mono hWs))).mono ?_;rintro e w5 ⟨vv,vp,vb,ps,rfl,hV,hI,hm,hq,hpw,hb5⟩;obtain⟨Av,cv,rfl⟩:=hV.form;obtain⟨Ai,ci,rfl⟩:=Yp hI;have hpsl:ps.length=F.blocks.length:=by have:=congrArg List.length hm;simpa using this
   obtain⟨gb,cb,-,rfl,-⟩:=hq.cells (i:=0) ZO;rw[hpsl];obtain⟨w6,hw6⟩:∃w6:World,w6=(w5.alloc (.map #[] 0)).alloc (.cells #[.slice Av F.vars.length cv,.slice Ai F.params.length ci,.slice (some ⟨gb,0,none⟩) F.blocks.length cb,.map (some w5.heap.size)] 81):=⟨_,rfl⟩;have hb56:Below w5.heap.size w5 w6:=by rw[hw6];exact(YO _ _).trans ((YO _ _).mono ZS)
   have hk56:KT [3,76,44,41,50] w5 w6:=KT.of_below hb56;have hKM:KM w6 w5.heap.size 0 (kAt F 0 0):=by
    have h1:=KM.made w5;rw[hw6,Yoz];exact h1.turn (heap_alloc_old _ _ ZS)
   have hMg:MgM F (kAt F 0 0) w6 w4.heap.size (w5.heap.size+1) gb cb w5.heap.size (.slice Av F.vars.length cv) (.slice Ai F.params.length ci) ps:=by
    refine⟨?_,hV.move hb56 (fun _ _ h=>h),Yu hI hb56,(hq.imp fun _ _ h=>h.cbi).kt hk56 ZS (fun _ _ h=>CBI.kt hk56 ZS ZS ZS h),hpw.imp fun h c h1 h2=>by have:=h.2 c c h1 h2;omega,0,hKM⟩;rw[hpsl,hw6];have h1:=BoxAt.new (w5.alloc (.map #[] 0)) #[.slice Av F.vars.length cv,.slice Ai F.params.length ci,.slice (some ⟨gb,0,none⟩) F.blocks.length cb,.map (some w5.heap.size)] 81;simpa using h1
   have hB46:Below w4.heap.size w4 w6:=hb5.trans (hb56.mono hb5.size);have HB6:=Lh (HB4.out.trans (hB46.mono HB4.out.size));have HY6:=Lh (HY4.out.below hB46 HY4.out.lt);have z2:=(hB46.cell (p:=⟨w.heap.size,2,none⟩) xl).trans x2;have zl:w.heap.size<w6.heap.size:=Nt xl hB46.size;have HMG:=Lh hMg;have HKM:=Lh hKM;have HPM:=Lh hm;have HBS:=Lh (HY4.out.lt);have HGM:=Lh (show w4.heap.size≤w5.heap.size from hb5.size);clear hV hI hm hq hpw hb5 hb56 hk56 hKM hMg hB46 hcp x0 x1 x2 xl HB4 HY4 HX4
   go_upto_region 5 with fail
   go_loud (rw[← hw6])
   clear hw6;generalize w5.heap.size=gm at *;generalize w4.heap.size=base at *;go_wp2_with fail
   go_loopw[27] (fun x wr=>∃i n:Nat,x=.int .i64 i∧i≤F.blocks.length∧n≤i*100000∧MgM F (kAt F i 0) wr base (gm+1) gb cb gm (.slice Av F.vars.length cv) (.slice Ai F.params.length ci) ps∧KM wr gm n (kAt F i 0)∧BoxAt wr (w.heap.size+1) #[.slice none 0 0,.slice none 0 0,.slice none 0 0] 26∧Below w.heap.size w wr) (fun x _=>F.blocks.length-(intOf x).toNat)
   case atStart=>exact⟨0,0,rfl,Nz _,Nz _,HMG.out,HKM.out,HY6.out,HB6.out⟩
   case round=>as_aux_lemma=>
    clear HMG HKM HY6 HB6 z2 zl;obtain⟨i,n,rfl,hi,hni,hMg,hKM,hRe,hB⟩:=hrel;have hWr:Below W.heap.size W wr:=HW.out.trans (hB.mono hWs)
    by_cases hlt:i<F.blocks.length
    · as_aux_lemma=>
      obtain⟨bb,off,A3,c3,A4,c4,rfl,hbb,hnz,hy0,hy1,hy2,hy3,hy4,hy5,hy6,l3,l4,k3,k4,r3,r4⟩:=r2.blk hWr hlt;have hnb:=(HNB.out.parts _ (Y4 hlt)).2;have HMG:=Lh hMg;have HKM:=Lh hKM;have HRE:=Lh hRe;have HB:=Lh hB;have HNI:=Lh hni;have hnBk:F.blocks.length≤100000:=HNB.out.blocks;obtain⟨wI,hwI⟩:∃wI:World,wI=wr.alloc (.cells #[.string (F.blk i).name,.slice A3 (F.blk i).phis.length c3,.slice A4 (F.blk i).insts.length c4,.int .i64 (F.blk i).term.kind,.int .i64 (F.blk i).term.var,.int .i64 (F.blk i).term.t0,.int .i64 (F.blk i).term.t1] 41):=⟨_,rfl⟩;have hbI:Below wr.heap.size wr wI:=by rw[hwI];exact YO _ _
      have bI:=BoxAt.new wr #[.string (F.blk i).name,.slice A3 (F.blk i).phis.length c3,.slice A4 (F.blk i).insts.length c4,.int .i64 (F.blk i).term.kind,.int .i64 (F.blk i).term.var,.int .i64 (F.blk i).term.t0,.int .i64 (F.blk i).term.t1] 41;rw[← hwI]at bI;have j2:=bI.cell 2;have jl:=bI.lt;simp at j2;have HMI:=Lh (hMg.below hbI);have HKI:=Lh (hKM.turn (hbI.block gm hKM.lt));have HRI:=Lh (hRe.below hbI hRe.lt);have HBI:=Lh (hB.trans (hbI.mono hB.size));clear hMg hKM hRe hB hni hbI bI hWr hnz l3 k3 r3
      go_upto_region 8 with fail
      go_loud (rw[← hwI])
      clear hwI hy0 hy1 hy2 hy3 hy4 hy5 hy6 hbb;obtain⟨wo,rfl⟩:∃wo:World,wo=wr:=⟨_,rfl⟩;go_wp2_with fail
      go_loopw[34] (fun x wq=>∃j m:Nat,x=.int .i64 j∧j≤(F.blk i).insts.length∧m≤n+j∧MgM F (kAt F i j) wq base (gm+1) gb cb gm (.slice Av F.vars.length cv) (.slice Ai F.params.length ci) ps∧KM wq gm m (kAt F i j)∧BoxAt wq (w.heap.size+1) #[.slice none 0 0,.slice none 0 0,.slice none 0 0] 26∧Below w.heap.size w wq) (fun x _=>(F.blk i).insts.length-(intOf x).toNat)
      case atStart=>exact⟨0,n,rfl,Nz _,ZO,HMI.out,HKI.out,HRI.out,HBI.out⟩
      case round=>as_aux_lemma=>
       clear HMI HKI HRI HBI j2 jl;obtain⟨j,m,rfl,hj,hmj,hMg,hKM,hRe,hB⟩:=hrel;have hWr:Below W.heap.size W wr:=HW.out.trans (hB.mono hWs)
       by_cases hlt2:j<(F.blk i).insts.length
       · as_aux_lemma=>
         obtain⟨ib,io,A5,c5,rfl,hib,z0,z1,z2,z3,l5,k5,r5⟩:=r4.inst hWr hlt2;have hxm:=Yar hlt2;have hwd:=Ygs HT.out.1 hlt _ hxm;have hwn:=HNUM.out _ (Y4 hlt) _ hxm;have hks:=YoA hlt2;generalize (F.blk i).inst j=x at *;have HWD:Hid ((Lit.int .i64 x.dst).wf=true):=WalkArith.wf_i64 (show(-9223372036854775808:Int)≤x.dst∧x.dst≤9223372036854775807 from ZO);have HWN:=Lh hwn
         by_cases hop:x.op=0
         · as_aux_lemma=>
           have HKF:=Lh (show kAt F i (j+1)=fun t=>if t=x.dst then some x.num else kAt F i j t by rw[hks,Yb9,if_pos hop]);rw[hop]at z0;obtain⟨wY,hwY⟩:∃wY:World,wY=wr.alloc (.cells #[.int .i64 0,.int .i64 x.dst,.slice A5 x.args.length c5,.int .i64 x.num] 44):=⟨_,rfl⟩;have hbY:Below wr.heap.size wr wY:=by rw[hwY];exact YO _ _
           have bY:BoxAt wY wr.heap.size #[.int .i64 0,.int .i64 x.dst,.slice A5 x.args.length c5,.int .i64 x.num] 44:=by rw[hwY];exact BoxAt.new _ _ _
           have o0:=bY.cell 0;have o1:=bY.cell 1;have o3:=bY.cell 3;have ol:=bY.lt;simp at o0 o1 o3;have MY:=hMg.below hbY;have u3:=MY.box.cell 3;have ul:=MY.box.lt;simp at u3;have HMY:=Lh MY;have HKY:=Lh (hKM.turn (hbY.block gm hKM.lt));have HRY:=Lh (hRe.below hbY hRe.lt);have HBY:=Lh (hB.trans (hbY.mono hB.size));have HMJ:=Lh hmj;have hmb:m≤100000000000:=by have h1:=HNI.out;have h2:=Nat.mul_le_mul_right 100000 hnBk;omega
           clear hMg hKM hRe hB hmj hbY bY MY hks hop hwd hwn hxm l5 k5 r5
           go_upto_region 11 with fail
           go_loud (rw[← hwY])
           clear hwY z0 z1 z2 z3 hib
           go_upto_region 12 with fail
           refine YeE [41,42,43,44,45,46,47,48] (fun i w' v'=>(([fun _ v'=>v'=.pointer (some ⟨gm+1,0,none⟩),fun _ v'=>v'=.pointer (some ⟨gm+1,0,none⟩),fun _ v'=>v'=.pointer (some ⟨gm+1,3,none⟩),fun _ v'=>v'=.map (some gm),fun _ v'=>v'=.pointer (some ⟨wr.heap.size,1,none⟩),fun _ v'=>v'=.int .i64 x.dst,fun _ v'=>v'=.pointer (some ⟨wr.heap.size,3,none⟩),fun _ v'=>v'=.int .i64 x.num]:List (World→Value→Prop)).getD i (fun _ _=>True)) w' v') ZK ZK ZK ZD ZK ZD ?mono ?step ?last
           case mono=>
            intro i w1 w2 v hi hb h
            match i,hi,h with
            |0,_,h=>exact h
            |1,_,h=>exact h
            |2,_,h=>exact h
            |3,_,h=>exact h
            |4,_,h=>exact h
            |5,_,h=>exact h
            |6,_,h=>exact h
            |7,_,h=>exact h
            |k+8,hi,_=>exact absurd hi (Nat.not_lt_of_le (Nat.le_add_left _ _))
           case step=>
            intro i o vs w1 ho hi hl hb hp K hK;have hl0:vs.length=8:=hl;clear hl;obtain⟨v0,r0,rfl,hl1⟩:=Ye (n:=7) hl0;obtain⟨v1,r1,rfl,hl2⟩:=Ye (n:=6) hl1;obtain⟨v2,r2,rfl,hl3⟩:=Ye (n:=5) hl2;obtain⟨v3,r3,rfl,hl4⟩:=Ye (n:=4) hl3;obtain⟨v4,r4,rfl,hl5⟩:=Ye (n:=3) hl4;obtain⟨v5,r5,rfl,hl6⟩:=Ye (n:=2) hl5;obtain⟨v6,r6,rfl,hl7⟩:=Ye (n:=1) hl6;obtain⟨v7,r7,rfl,hl8⟩:=Ye (n:=0) hl7;obtain rfl:=List.eq_nil_of_length_eq_zero hl8;clear hl0 hl1 hl2 hl3 hl4 hl5 hl6 hl7 hl8
            match i,ho,hi,hp with
            |0,ho,hi,hp=>
             obtain rfl:=Option.some.inj ho;clear hi;clear hp;simp only[Yc,Act.put,La,Lz,Lc];go_simp
             try go_wp2
             refine hK.out (.pointer (some ⟨gm+1,0,none⟩)) _ _ ?_ ZE rfl;simp only[Yc,Act.put,La,Lz,Lc]
            |1,ho,hi,hp=>
             obtain rfl:=Option.some.inj ho;clear hi;have q0:v0=.pointer (some ⟨gm+1,0,none⟩):=hp 0 ZK;obtain rfl:=q0;clear hp;simp only[Yc,Act.put,La,Lz,Lc];go_simp
             try go_wp2
             refine hK.out (.pointer (some ⟨gm+1,0,none⟩)) _ _ ?_ ZE rfl;simp only[Yc,Act.put,La,Lz,Lc]
            |2,ho,hi,hp=>
             obtain rfl:=Option.some.inj ho;clear hi;have q1:v1=.pointer (some ⟨gm+1,0,none⟩):=hp 1 ZK;obtain rfl:=q1;clear hp;simp only[Yc,Act.put,La,Lz,Lc];go_simp
             try go_wp2
             refine hK.out (.pointer (some ⟨gm+1,3,none⟩)) _ _ ?_ ZE rfl;simp only[Yc,Act.put,La,Lz,Lc]
            |3,ho,hi,hp=>
             obtain rfl:=Option.some.inj ho;clear hi;have q2:v2=.pointer (some ⟨gm+1,3,none⟩):=hp 2 ZK;obtain rfl:=q2;clear hp;simp only[Yc,Act.put,La,Lz,Lc];have z9:=(hb.cell (p:=⟨gm+1,3,none⟩) ul).trans u3;have zl:gm+1<w1.heap.size:=Nt ul hb.size;go_simp
             try go_wp2
             refine hK.out (.map (some gm)) _ _ ?_ ZE rfl;simp only[Yc,Act.put,La,Lz,Lc]
            |4,ho,hi,hp=>
             obtain rfl:=Option.some.inj ho;clear hi;clear hp;simp only[Yc,Act.put,La,Lz,Lc];go_simp
             try go_wp2
             refine hK.out (.pointer (some ⟨wr.heap.size,1,none⟩)) _ _ ?_ ZE rfl;simp only[Yc,Act.put,La,Lz,Lc]
            |5,ho,hi,hp=>
             obtain rfl:=Option.some.inj ho;clear hi;have q4:v4=.pointer (some ⟨wr.heap.size,1,none⟩):=hp 4 ZK;obtain rfl:=q4;clear hp;simp only[Yc,Act.put,La,Lz,Lc];have z9:=(hb.cell (p:=⟨wr.heap.size,1,none⟩) ol).trans o1;have zl:wr.heap.size<w1.heap.size:=Nt ol hb.size;go_simp
             try go_wp2
             refine hK.out (.int .i64 x.dst) _ _ ?_ ZE rfl;simp only[Yc,Act.put,La,Lz,Lc]
            |6,ho,hi,hp=>
             obtain rfl:=Option.some.inj ho;clear hi;clear hp;simp only[Yc,Act.put,La,Lz,Lc];go_simp
             try go_wp2
             refine hK.out (.pointer (some ⟨wr.heap.size,3,none⟩)) _ _ ?_ ZE rfl;simp only[Yc,Act.put,La,Lz,Lc]
            |7,ho,hi,hp=>
             obtain rfl:=Option.some.inj ho;clear hi;have q6:v6=.pointer (some ⟨wr.heap.size,3,none⟩):=hp 6 ZK;obtain rfl:=q6;clear hp;simp only[Yc,Act.put,La,Lz,Lc];have z9:=(hb.cell (p:=⟨wr.heap.size,3,none⟩) ol).trans o3;have zl:wr.heap.size<w1.heap.size:=Nt ol hb.size;go_simp
             try go_wp2
             refine hK.out (.int .i64 x.num) _ _ ?_ ZE rfl;simp only[Yc,Act.put,La,Lz,Lc]
            |k+8,_,hi,_=>exact absurd hi (Nat.not_lt_of_le (Nat.le_add_left _ _))
           case last=>
            intro vs w1 hl hb1 hp;have hl0:vs.length=8:=hl;clear hl;obtain⟨v0,r0,rfl,hl1⟩:=Ye (n:=7) hl0;obtain⟨v1,r1,rfl,hl2⟩:=Ye (n:=6) hl1;obtain⟨v2,r2,rfl,hl3⟩:=Ye (n:=5) hl2;obtain⟨v3,r3,rfl,hl4⟩:=Ye (n:=4) hl3;obtain⟨v4,r4,rfl,hl5⟩:=Ye (n:=3) hl4;obtain⟨v5,r5,rfl,hl6⟩:=Ye (n:=2) hl5;obtain⟨v6,r6,rfl,hl7⟩:=Ye (n:=1) hl6;obtain⟨v7,r7,rfl,hl8⟩:=Ye (n:=0) hl7;obtain rfl:=List.eq_nil_of_length_eq_zero hl8;clear hl0 hl1 hl2 hl3 hl4 hl5 hl6 hl7 hl8;have q0:v0=.pointer (some ⟨gm+1,0,none⟩):=hp 0 (of_decide_eq_true ZK);have q1:v1=.pointer (some ⟨gm+1,0,none⟩):=hp 1 (of_decide_eq_true ZK);have q2:v2=.pointer (some ⟨gm+1,3,none⟩):=hp 2 (of_decide_eq_true ZK);have q3:v3=.map (some gm):=hp 3 (of_decide_eq_true ZK);have q4:v4=.pointer (some ⟨wr.heap.size,1,none⟩):=hp 4 (of_decide_eq_true ZK);have q5:v5=.int .i64 x.dst:=hp 5 (of_decide_eq_true ZK);have q6:v6=.pointer (some ⟨wr.heap.size,3,none⟩):=hp 6 (of_decide_eq_true ZK);have q7:v7=.int .i64 x.num:=hp 7 (of_decide_eq_true ZK);obtain rfl:=q0;obtain rfl:=q1;obtain rfl:=q2;obtain rfl:=q3;obtain rfl:=q4;obtain rfl:=q5;obtain rfl:=q6;obtain rfl:=q7;clear hp;simp only[Yc,Act.put,La,Lz,Lc];simp only[List.length_cons,List.length_nil,List.drop_succ_cons,List.drop_zero,Nat.zero_add,Nat.reduceAdd];have HM1:=Lh (HMY.out.below hb1);have hk1:=HKY.out.turn (hb1.block gm HKY.out.lt);have HR1:=Lh (HRY.out.below hb1 HRY.out.lt);have HB1:=Lh (HBY.out.trans (hb1.mono HBY.out.size));have HMB:=Lh hmb;clear hb1 u3 ul o0 o1 o3 ol hmb;go_wp2_with(at_mapUpdate;refine Ym8 _ rfl _ _ _ rfl rfl hk1 (by have:=HMB.out;unfold maxLen;omega) _ HWD.out rfl _ rfl HWN.out ?_;intro w9 hk9 hg9);go_roundw
            case rel=>
             refine⟨j+1,m+1,ZN,hlt2,by have:=HMJ.out;omega,?_,?_,?_,?_⟩
             · rw[HKF.out]
               exact HM1.out.kput hg9 hk9
             · rw[HKF.out]
               exact hk9
             · exact HR1.out.grown hg9 (fun e=>by cases e;have h1:=HBS.out;have h2:=HGM.out;omega)
             · exact HB1.out.grown hg9 (by have:=HB1.out.size;omega) (fun k hk=>by cases hk;have h1:=HBS.out;have h2:=HGM.out;omega)
            case measure=>first|(simp[intOf];done)|(simp[intOf];omega)
         · as_aux_lemma=>
           have hd:(x.op==0)=false:=by simp[hop]
           have HKF:=Lh (show kAt F i (j+1)=kAt F i j by rw[hks,Yb9,if_neg hop]);have HMY:=Lh hMg;have HKY:=Lh hKM;have HRY:=Lh hRe;have HBY:=Lh hB;have HMJ:=Lh hmj;clear hMg hKM hRe hB hmj hks hop hwd hwn hxm l5 k5 r5;go_wp2_with fail;go_roundw
           case rel=>
            have hbY:=YO wr (.cells #[.int .i64 x.op,.int .i64 x.dst,.slice A5 x.args.length c5,.int .i64 x.num] 44);refine⟨j+1,m,ZN,hlt2,by have:=HMJ.out;omega,?_,?_,HRY.out.below hbY HRY.out.lt,HBY.out.trans (hbY.mono HBY.out.size)⟩
            · rw[HKF.out]
              exact HMY.out.below hbY
            · rw[HKF.out]
              exact HKY.out.turn (hbY.block gm HKY.out.lt)
           case measure=>first|(simp[intOf];done)|(simp[intOf];omega)
       · as_aux_lemma=>
         obtain rfl:j=(F.blk i).insts.length:=by omega
         rw[YoB hlt]at hMg hKM;have HMY:=Lh hMg;have HKY:=Lh hKM;have HRY:=Lh hRe;have HBY:=Lh hB;have HMJ:=Lh (show m≤(i+1)*100000 by have:=HNI.out;omega);clear hMg hKM hRe hB hmj hlt2 hj;go_wp2_with fail;go_roundw
         case rel=>exact⟨i+1,m,ZN,hlt,HMJ.out,HMY.out,HKY.out,HRY.out,HBY.out⟩
         case measure=>first|(simp[intOf];done)|(simp[intOf];omega)
    · as_aux_lemma=>
      obtain rfl:i=F.blocks.length:=by omega
      rw[YoC]at hMg;have HM0:=Lh hMg;have HR0:=Lh hRe;have HB0':=Lh hB;have u2:=hMg.box.cell 2;have ul:=hMg.box.lt;simp at u2;have HPS:=Lh hpsl;rw[hpsl]at u2;have hgml:=HGM.out;clear hMg hKM hRe hB hi hlt hni hWr hpsl HNUM HNB r2;go_wp2_with fail;obtain⟨wo,rfl⟩:∃wo:World,wo=wr:=⟨_,rfl⟩;clear u2 ul
      go_loopw[57] (fun x wr=>∃(i:Nat) (qs:List (PBlock×Value×Value)),x=.int .i64 i∧i≤F.blocks.length∧Hid (qs.map Prod.fst=YbK (Ybj (kF F)) F.blocks i)∧MgM F (kF F) wr base (gm+1) gb cb gm (.slice Av F.vars.length cv) (.slice Ai F.params.length ci) qs∧BoxAt wr (w.heap.size+1) #[.slice none 0 0,.slice none 0 0,.slice none 0 0] 26∧Below w.heap.size w wr∧base≤wr.heap.size) (fun x _=>F.blocks.length-(intOf x).toNat)
      case atStart=>exact⟨0,ps,rfl,Nz _,by rw[Hid,HPM.out];simp[YbK],HM0.out,HR0.out,HB0'.out,by have:=HM0.out.box.lt;omega⟩
      case round=>as_aux_lemma=>
       clear HM0 HR0 HB0';obtain⟨i,qs,rfl,hi,HQ,hMg,hRe,hB,hbz⟩:=hrel;have hql:=YoK HQ.out
       by_cases hlt:i<F.blocks.length
       · as_aux_lemma=>
         obtain⟨v1,v2,hqi⟩:=YoH hlt HQ.out;obtain⟨hI2,gbl,-,-,-,-,k2,-⟩:=hMg.rows hqi;obtain⟨A2',c2',rfl,-,-⟩:=hI2.form;have u2:=hMg.box.cell 2;have ul:=hMg.box.lt;simp at u2;have hiz:(i:Int)<(F.blocks.length:Int):=by omega
         rw[hql]at u2;have hn1:(F.blk i).insts.length≤1024:=Ygr HT.out.1 hlt;have HMG:=Lh hMg;have HRE:=Lh hRe;have HB:=Lh hB;have HQI:=Lh hqi;have HQL:=Lh hql;clear hMg hRe hB hqi hI2 hql;have H1:Hid (OneI (kF F) (F.blk i) 0 (F.blk i).insts):=⟨Nz _,Nr _,ZS,YeI HT.out.1 hS.1 hlt,YoD HT.out.1 HO1.out hlt⟩;have hq64:qs.length≤64:=by rw[HQL.out];exact n2
         have hbw:w.heap.size+1<base:=HBS.out;go_wp2_with fail;obtain⟨wp,rfl⟩:∃wp:World,wp=wr:=⟨_,rfl⟩;clear gbl k2 u2 ul
         go_loopw[12] (fun s12 wr=>∃(at_:Nat) (L:List PInst) (v':Value),s12=.int .i64 at_∧Hid (OneI (kF F) (F.blk i) at_ L)∧MgM F (kF F) wr base (gm+1) gb cb gm (.slice Av F.vars.length cv) (.slice Ai F.params.length ci) (qs.set i ({ F.blk i with insts:=L },v1,v'))∧BoxAt wr (w.heap.size+1) #[.slice none 0 0,.slice none 0 0,.slice none 0 0] 26∧Below w.heap.size w wr∧base≤wr.heap.size) (fun s _=>1024-(intOf s).toNat)
         case atStart=>exact⟨0,(F.blk i).insts,_,rfl,H1,by rw[YiU HQI.out];exact HMG.out,HRE.out,HB.out,hbz⟩
         case round=>as_aux_lemma=>
          clear HMG HRE HB H1;obtain⟨at_,L,v',rfl,HL,hMg,hRe,hB,hbz2⟩:=hrel;have hq2:(qs.set i (({ F.blk i with insts:=L },v1,v'):PBlock×Value×Value))[i]?=some ({ F.blk i with insts:=L },v1,v'):=List.getElem?_set_self (List.getElem?_eq_some_iff.1 HQI.out).1;obtain⟨hI2,gbl,-,-,-,-,k2,-⟩:=hMg.rows hq2;obtain⟨A9,c9,rfl,-,-⟩:=hI2.form;have hLn:=HL.out.len;have hLa:=HL.out.le
          by_cases hlt2:at_<L.length
          · as_aux_lemma=>
            have hone:=Yoy hMg hq2 hlt2 (by show L.length≤1024;omega) HL.out.ok HL.out.once hbz2 (by rw[List.length_set];exact hq64);have HRE:=Lh hRe;have HB:=Lh hB;have hatz:(at_:Int)<(L.length:Int):=by omega
            unfold Ygp at hone;clear hMg hRe hB hq2 hI2;go_wp2_with(go_at_call 39;refine hone.mono ?_;rintro e w9 ⟨S,hS9,rfl,⟨v9,hM9⟩,hb9⟩);go_roundw
            case rel=>
             obtain⟨h1,h2⟩:=HL.out.step hlt2 hS9;rw[List.set_set]at hM9;exact⟨at_+S.1.length,_,v9,by rw[Int.natCast_add,hS9],h1,hM9,HRE.out.below hb9 hbw,HB.out.trans (hb9.mono ZO),Nat.le_trans hbz2 hb9.size⟩
            case measure=>
             have h2:=(HL.out.step hlt2 hS9).2;rw[hS9]at h2
             first|(simp[intOf];done)|(simp[intOf];omega)
          · as_aux_lemma=>
            obtain rfl:at_=L.length:=by omega
            have HQ2:=Lh (YoI hlt HQ.out (v3:=v1) (v4:=.slice A9 L.length c9));rw[← HL.out.fin]at HQ2;have HMG:=Lh hMg;have HRE:=Lh hRe;have HB:=Lh hB;clear hMg hRe hB hq2 hI2;go_wp2_with fail;go_roundw
            case rel=>exact⟨i+1,_,ZN,hlt,HQ2,HMG.out,HRE.out,HB.out,hbz2⟩
            case measure=>first|(simp[intOf];done)|(simp[intOf];omega)
       · as_aux_lemma=>
         obtain rfl:i=F.blocks.length:=by omega
         have hq9:=HQ.out;rw[YoJ]at hq9;have z1:=hMg.box.cell 0;have z2:=hMg.box.cell 1;have z3:=hMg.box.cell 2;have zl:=hMg.box.lt;have y0:=hRe.cell 0;have y1:=hRe.cell 1;have y2:=hRe.cell 2;have yl:=hRe.lt;have f0:=hRe.frozen 0;have f1:=hRe.frozen 1;have f2:=hRe.frozen 2;simp at z1 z2 z3 y0 y1 y2;have HMG:=Lh hMg;have HRE:=Lh hRe;have HB:=Lh hB;have HQ9:=Lh hq9;have HNB2:=Lh HNB3.out;clear hMg hRe hB hq9 hql;go_wp2;have hz:=HRE.out.set3 (a:=.slice Av F.vars.length cv) (b:=.slice Ai F.params.length ci) (c:=.slice (some ⟨gb,0,none⟩) qs.length cb);have z0:=hz.cell 0;have z1:=hz.cell 1;have z2:=hz.cell 2;simp only[List.getElem?_toArray,List.getElem?_cons_zero,List.getElem?_cons_succ]at z0 z1 z2;have hKe:KT [3,76,44,50,41] wr (((wr.setCell ⟨w.heap.size+1,0,none⟩ (.slice Av F.vars.length cv)).setCell ⟨w.heap.size+1,1,none⟩ (.slice Ai F.params.length ci)).setCell ⟨w.heap.size+1,2,none⟩ (.slice (some ⟨gb,0,none⟩) qs.length cb)):=
          ((KT.refl.setCell HRE.out ZS _).setCell (HRE.out.set 0 _) ZS _).setCell ((HRE.out.set 0 _).set 1 _) ZS _
         have hfin:=MgM.fn (G:=mrgF F) (HMG.out.hV.kt hKe ZS (fun _ _ h=>h)) (YaT HMG.out.hI hKe ZS) (HMG.out.hq.kt hKe ZS (fun _ _ h=>CBI.kt hKe ZS ZS ZS h)) HQ9.out rfl rfl (YiY HNB2.out);have hBz:=((HB.out.setCell (p:=⟨w.heap.size+1,0,none⟩) ZS (.slice Av F.vars.length cv)).setCell (p:=⟨w.heap.size+1,1,none⟩) ZS (.slice Ai F.params.length ci)).setCell (p:=⟨w.heap.size+1,2,none⟩) ZS (.slice (some ⟨gb,0,none⟩) qs.length cb);exact bodyPost_ret (v:=.tuple #[.agg #[.slice Av F.vars.length cv,.slice Ai F.params.length ci,.slice (some ⟨gb,0,none⟩) qs.length cb],.int .i64 0]) (by simp[results,Tryz.results12,go_sem,z0,z1,z2]) rfl ⟨.inr ⟨trivial,_,rfl,hfin⟩,hBz⟩
def fnM:PFunc:=⟨[⟨⟨#[120,115]⟩,2⟩,⟨⟨#[122]⟩,0⟩,⟨⟨#[118]⟩,0⟩,⟨⟨#[107]⟩,0⟩],[0],[⟨⟨#[97]⟩,[],[⟨0,1,[],0⟩,⟨18,-1,[0,1],0⟩,⟨13,2,[0,1],0⟩,⟨0,3,[],2⟩,⟨18,-1,[0,3],0⟩],⟨2,2,0,0⟩⟩]⟩
theorem Yi0:Yv fnM=true:=by decide +kernel
theorem YoL:Yao fnM=true:=by
 have h0:Yd fnM=true:=by decide +kernel
 have h1:Yai fnM=true:=by decide +kernel
 have h2:Ybh fnM=true:=by decide +kernel
 have h3:Yr fnM=true:=by decide +kernel
 have h5:noPi fnM=true:=by decide +kernel
 have h4:∀T,YH fnM T 0=true:=fun T=>by kernel_rfl
 unfold Yao YaD Yak;rw[h0,h1,h2,h3,h5];simp only[Bool.true_and,Bool.and_true];refine List.all_eq_true.2 fun i hi=>?_
 have:i<1:=List.mem_range.1 hi;obtain rfl:i=0:=by omega
 exact h4 _
theorem YoM:∀b∈fnM.blocks,∀x∈b.insts,(Lit.int .i64 x.num).wf=true:=by decide +kernel
theorem Ygt:(mrgF fnM).blocks.length=1∧((mrgF fnM).blk 0).insts=[⟨0,1,[],0⟩,⟨0,3,[],2⟩,⟨18,-1,[0,3],0⟩,⟨13,2,[0,1],0⟩]:=⟨rfl,ZK⟩
theorem YoN{w:World}{b:Nat}(hl:b+6<w.heap.size)(c0:∀j,w.cell? ⟨b,j,none⟩=(#[.string ⟨#[120,115]⟩,.int .i64 2,.string ⟨#[122]⟩,.int .i64 0,.string ⟨#[118]⟩,.int .i64 0,.string ⟨#[107]⟩,.int .i64 0]:Array Value)[j]?)(c1:∀j,w.cell? ⟨b+1,j,none⟩=(#[.int .i64 0]:Array Value)[j]?)
 (c2:∀j,w.cell? ⟨b+2,j,none⟩=(#[.int .i64 0,.int .i64 1]:Array Value)[j]?) (c3:∀j,w.cell? ⟨b+3,j,none⟩=(#[.int .i64 0,.int .i64 1]:Array Value)[j]?) (c4:∀j,w.cell? ⟨b+4,j,none⟩=(#[.int .i64 0,.int .i64 3]:Array Value)[j]?)
 (c5:∀j,w.cell? ⟨b+5,j,none⟩=(#[.int .i64 0,.int .i64 1,.slice none 0 0,.int .i64 0,.int .i64 18,.int .i64 (-1),.slice (some ⟨b+2,0,none⟩) 2 2,.int .i64 0,.int .i64 13,.int .i64 2,.slice (some ⟨b+3,0,none⟩) 2 2,.int .i64 0,.int .i64 0,.int .i64 3,.slice none 0 0,.int .i64 2,.int .i64 18,.int .i64 (-1),.slice (some ⟨b+4,0,none⟩) 2 2,.int .i64 0]:Array Value)[j]?)
 (c6:∀j,w.cell? ⟨b+6,j,none⟩=(#[.string ⟨#[97]⟩,.slice none 0 0,.slice (some ⟨b+5,0,none⟩) 5 5,.int .i64 2,.int .i64 2,.int .i64 0,.int .i64 0]:Array Value)[j]?) :
 FnV w w.heap.size (.agg #[.slice (some ⟨b,0,none⟩) 4 4,.slice (some ⟨b+1,0,none⟩) 1 1,.slice (some ⟨b+6,0,none⟩) 1 1]) fnM:=by
 have two:∀{g:Nat} {x y:Int},g<w.heap.size→(∀j,w.cell? ⟨g,j,none⟩=(#[.int .i64 x,.int .i64 y]:Array Value)[j]?)→SInts w w.heap.size (.slice (some ⟨g,0,none⟩) 2 2) [x,y]:=fun {g x y} hg hc=>⟨_,_,rfl,by simp[Len],Nr _,fun i z hz=>⟨g,0,rfl,hg,by
  match i,hz with
  |0,hz=>cases hz;exact hc 0
  |1,hz=>cases hz;exact hc 1⟩⟩
 refine⟨_,_,_,rfl,⟨_,_,rfl,by simp[Len,fnM],ZD,fun i x hx=>?_⟩,⟨_,_,rfl,by simp[Len,fnM],ZD,fun i x hx=>?_⟩,⟨_,_,rfl,by simp[Len,fnM],ZD,fun i x hx=>?_⟩⟩
 · refine⟨b,0,rfl,ZO,?_⟩
   match i,hx with
   |0,hx=>cases hx;exact⟨ZD,c0 0,c0 1⟩
   |1,hx=>cases hx;exact⟨ZD,c0 2,c0 3⟩
   |2,hx=>cases hx;exact⟨ZD,c0 4,c0 5⟩
   |3,hx=>cases hx;exact⟨ZD,c0 6,c0 7⟩
 · refine⟨b+1,0,rfl,ZO,?_⟩
   match i,hx with
   |0,hx=>cases hx;exact c1 0
 · refine⟨b+6,0,rfl,ZO,?_⟩
   match i,hx with
   |0,hx=>
    cases hx;refine⟨ZD,c6 0,⟨_,c6 1,Yb8⟩,⟨_,c6 2,_,_,rfl,by simp[Len],ZD,fun i x hx=>⟨b+5,0,rfl,ZO,?_⟩⟩,c6 3,c6 4,c6 5,c6 6⟩
    match i,hx with
    |0,hx=>cases hx;exact⟨c5 0,c5 1,⟨_,c5 2,Yb8⟩,c5 3⟩
    |1,hx=>cases hx;exact⟨c5 4,c5 5,⟨_,c5 6,two ZO c2⟩,c5 7⟩
    |2,hx=>cases hx;exact⟨c5 8,c5 9,⟨_,c5 10,two ZO c3⟩,c5 11⟩
    |3,hx=>cases hx;exact⟨c5 12,c5 13,⟨_,c5 14,Yb8⟩,c5 15⟩
    |4,hx=>cases hx;exact⟨c5 16,c5 17,⟨_,c5 18,two ZO c4⟩,c5 19⟩
theorem YoO{w V:World}{b0 b1 b2 b3 b4 b5 b6:Array Value}{t0 t1 t2 t3 t4 t5 t6:TypeId}(hV:V=(((((((w.alloc (.cells b0 t0)).alloc (.cells b1 t1)).alloc (.cells b2 t2)).alloc (.cells b3 t3)).alloc (.cells b4 t4)).alloc (.cells b5 t5)).alloc (.cells b6 t6))) :
 BoxAt V (w.heap.size) b0 t0∧BoxAt V (w.heap.size+1) b1 t1∧BoxAt V (w.heap.size+2) b2 t2∧BoxAt V (w.heap.size+3) b3 t3∧BoxAt V (w.heap.size+4) b4 t4∧BoxAt V (w.heap.size+5) b5 t5∧BoxAt V (w.heap.size+6) b6 t6:=by
 subst hV;have h0:=BoxAt.new w b0 t0;have h1:=BoxAt.new (w.alloc (.cells b0 t0)) b1 t1;have h2:=BoxAt.new ((w.alloc (.cells b0 t0)).alloc (.cells b1 t1)) b2 t2;have h3:=BoxAt.new (((w.alloc (.cells b0 t0)).alloc (.cells b1 t1)).alloc (.cells b2 t2)) b3 t3;have h4:=BoxAt.new ((((w.alloc (.cells b0 t0)).alloc (.cells b1 t1)).alloc (.cells b2 t2)).alloc (.cells b3 t3)) b4 t4;have h5:=BoxAt.new (((((w.alloc (.cells b0 t0)).alloc (.cells b1 t1)).alloc (.cells b2 t2)).alloc (.cells b3 t3)).alloc (.cells b4 t4)) b5 t5;have h6:=BoxAt.new ((((((w.alloc (.cells b0 t0)).alloc (.cells b1 t1)).alloc (.cells b2 t2)).alloc (.cells b3 t3)).alloc (.cells b4 t4)).alloc (.cells b5 t5)) b6 t6;simp only[World.size_alloc]at h1 h2 h3 h4 h5 h6;exact⟨(((((h0.alloc _).alloc _).alloc _).alloc _).alloc _).alloc _,((((h1.alloc _).alloc _).alloc _).alloc _).alloc _,(((h2.alloc _).alloc _).alloc _).alloc _,((h3.alloc _).alloc _).alloc _,(h4.alloc _).alloc _,h5.alloc _,h6⟩
set_option maxHeartbeats 8000000 in
theorem Yi1{W w:World}(hU:Uni W)(hW:Below W.heap.size W w) :
 Calls Tryz.prog 10 #[] w fun e w'=>e=.returned (.bool true)∧Below w.heap.size w w':=by
 obtain⟨V,hV⟩:∃V:World,V=(((((((w.alloc (.cells #[.string ⟨#[120,115]⟩,.int .i64 2,.string ⟨#[122]⟩,.int .i64 0,.string ⟨#[118]⟩,.int .i64 0,.string ⟨#[107]⟩,.int .i64 0] 50)).alloc (.cells #[.int .i64 0] 3)).alloc (.cells #[.int .i64 0,.int .i64 1] 3)).alloc (.cells #[.int .i64 0,.int .i64 1] 3)).alloc (.cells #[.int .i64 0,.int .i64 3] 3)).alloc (.cells #[.int .i64 0,.int .i64 1,.slice none 0 0,.int .i64 0,.int .i64 18,.int .i64 (-1),.slice (some ⟨w.heap.size+1+1,0,none⟩) 2 2,.int .i64 0,.int .i64 13,.int .i64 2,.slice (some ⟨w.heap.size+1+1+1,0,none⟩) 2 2,.int .i64 0,.int .i64 0,.int .i64 3,.slice none 0 0,.int .i64 2,.int .i64 18,.int .i64 (-1),.slice (some ⟨w.heap.size+1+1+1+1,0,none⟩) 2 2,.int .i64 0] 44)).alloc (.cells #[.string ⟨#[97]⟩,.slice none 0 0,.slice (some ⟨w.heap.size+1+1+1+1+1,0,none⟩) 5 5,.int .i64 2,.int .i64 2,.int .i64 0,.int .i64 0] 41)):=⟨_,rfl⟩;have hb0:Below w.heap.size w V:=by subst hV;(focus repeat(first|assumption|exact Br _ _|refine Below.drew ?_|refine Below.alloc ?_ (by first|omega|exact Below.size ZA|(simp;done)|(simp;omega)) _|(refine Below.trans ?_ (Below.mono ZA ?_);rotate_left;exact(by first|omega|exact Below.size ZA|(simp;done)|(simp;omega)))))
 have hU9:=(hU.below hW).below hb0;have hs9:V.heap.size=w.heap.size+7:=by subst hV;simp
 obtain⟨x0,x1,x2,x3,x4,x5,x6⟩:=YoO hV;have hF1:FnV V V.heap.size (.agg #[.slice (some ⟨w.heap.size,0,none⟩) 4 4,.slice (some ⟨w.heap.size+1,0,none⟩) 1 1,.slice (some ⟨w.heap.size+1+1+1+1+1+1,0,none⟩) 1 1]) fnM:=YoN (b:=w.heap.size) (w:=V) ZO x0.cell x1.cell x2.cell x3.cell x4.cell x5.cell x6.cell;have hBX:=BoxAt.new V #[.slice (some ⟨w.heap.size,0,none⟩) 4 4,.slice (some ⟨w.heap.size+1,0,none⟩) 1 1,.slice (some ⟨w.heap.size+1+1+1+1+1+1,0,none⟩) 1 1] 26;have hVF:=YO V (.cells #[.slice (some ⟨w.heap.size,0,none⟩) 4 4,.slice (some ⟨w.heap.size+1,0,none⟩) 1 1,.slice (some ⟨w.heap.size+1+1+1+1+1+1,0,none⟩) 1 1] 26);have h1:=YeJ hU9 hF1 hVF (Yde Yi0) (YeF Yi0) YoM
 have h2:=fun(w':World) (h:Below V.heap.size V w')=>YiS (W:=V) (w:=w') (A:=some ⟨w.heap.size+1+1+1+1+1,0,none⟩) (c:=5) (xs:=(fnM.blk 0).insts) (nm:=⟨#[97]⟩) (vp:=.slice none 0 0) (k3:=2) (k4:=2) (k5:=0) (k6:=0) (by
  obtain⟨A0,c0,A1,c1,A2,c2,e,-,-,-,-,-,-,-,-,r2⟩:=hF1.open_;simp only[Value.agg.injEq,Array.mk.injEq,List.cons.injEq,Value.slice.injEq,and_true]at e;obtain⟨-,-,rfl,-,-⟩:=e;obtain⟨bb,off,A3,c3,A4,c4,e1,hbb,-,-,-,hy2,-,-,-,-,-,-,-,-,-,r4⟩:=r2.blk (Br _ _) (i:=0) ZD;simp only[Option.some.injEq,Addr.mk.injEq,and_true]at e1;obtain⟨rfl,rfl⟩:=e1;have h5:=x6.cell 2;rw[show(⟨w.heap.size+1+1+1+1+1+1,0+0*7+2,none⟩:Addr)=⟨w.heap.size+6,2,none⟩from ZS]at hy2;rw[h5]at hy2;simp at hy2;rw[← hy2.1]at r4
  exact r4) ZD ZD ZD h 1
 rw[show Yby (fnM.blk 0).insts 1=3 by decide +kernel,show((fnM.blk 0).insts.length)=5 from rfl]at h2;have HB0:=Lh hb0;have HBX:=Lh hBX;have HVF:=Lh hVF;have HX6:=Lh x6;have h9:w.heap.size≤V.heap.size:=by omega
 unfold Ydi at h1;clear x0 x1 x2 x3 x4 x5 x6 hF1 hU9 hU hW hb0 hBX hVF;go_enter Tryz.func10,Tryz.ntmps10;go_wp2_with fail;rw[← hV];clear hV;refine h1.mono ?_;rintro e w5 ⟨h,hb5⟩;obtain⟨gv,rfl,hG⟩:∃v,e=.returned (.tuple #[v,.int .i64 0])∧FnV w5 w5.heap.size v (mrgF fnM):=by
  rcases h with⟨h,-⟩|⟨-,h⟩
  · rw[YoL]at h
    cases h
  · exact h
 clear h;obtain⟨A0,c0,A1,c1,A2,c2,rfl,-,-,-,-,-,-,-,-,r2⟩:=hG.open_;rw[Ygt.1];obtain⟨bb,off,A3,c3,A4,c4,rfl,hbb,-,-,-,hy2,-,-,-,-,-,-,-,-,-,r4⟩:=r2.blk (Br _ _) (i:=0) (by rw[Ygt.1];decide);rw[Ygt.2]at hy2 r4;replace hy2:w5.cell? ⟨bb,off+2,none⟩=some (.slice A4 4 c4):=by simpa using hy2
 obtain⟨ib,io,rfl,hib,k0,-,-,k3⟩:=r4 1 ⟨0,3,[],2⟩ rfl;obtain⟨ib',io',e9,-,m0,-,⟨va,m2,A5,c5,rfl,-,n5,r5⟩,-⟩:=r4 2 ⟨18,-1,[0,3],0⟩ rfl;cases e9;obtain⟨ib',io',e9,-,p0,-⟩:=r4 3 ⟨13,2,[0,1],0⟩ rfl;cases e9;obtain⟨ab,ao,rfl,hab,q1⟩:=r5 1 3 rfl;replace k0:w5.cell? ⟨ib,io+4,none⟩=some (.int .i64 0):=k0;replace k3:w5.cell? ⟨ib,io+4+3,none⟩=some (.int .i64 2):=k3;replace m0:w5.cell? ⟨ib,io+8,none⟩=some (.int .i64 18):=m0;replace m2:w5.cell? ⟨ib,io+8+2,none⟩=some (.slice (some ⟨ab,ao,none⟩) 2 c5):=m2;replace p0:w5.cell? ⟨ib,io+12,none⟩=some (.int .i64 13):=p0;replace q1:w5.cell? ⟨ab,ao+1,none⟩=some (.int .i64 3):=q1;have n5':2≤c5:=n5;have hbf:=HBX.out.below hb5 HBX.out.lt;rw[show V.heap.size=w.heap.size+1+1+1+1+1+1+1 from ZO]at hbf;have hV5:=HVF.out.trans (hb5.mono HVF.out.size);have hx65:=HX6.out.below hV5 HX6.out.lt;have HB5:=Lh (HB0.out.trans (hV5.mono h9));obtain⟨w6,hw6⟩:∃w6:World,w6=w5.alloc (.cells #[.slice A0 (mrgF fnM).vars.length c0,.slice A1 (mrgF fnM).params.length c1,.slice (some ⟨bb,off,none⟩) 1 c2] 26):=⟨_,rfl⟩;have hb6:Below w5.heap.size w5 w6:=by rw[hw6];exact YO _ _
 have hx6:BoxAt w6 w5.heap.size #[.slice A0 (mrgF fnM).vars.length c0,.slice A1 (mrgF fnM).params.length c1,.slice (some ⟨bb,off,none⟩) 1 c2] 26:=by rw[hw6];exact BoxAt.new _ _ _
 have h3:=h2 w6 (hV5.trans (hb6.mono hV5.size));have hbf6:=hbf.below hb6 hbf.lt;have hx66:=hx65.below hb6 hx65.lt;have a0:=(hb6.cell (p:=⟨bb,off+2,none⟩) hbb).trans hy2;have a1:=(hb6.cell (p:=⟨ib,io+4,none⟩) hib).trans k0;have a2:=(hb6.cell (p:=⟨ib,io+4+3,none⟩) hib).trans k3;have a3:=(hb6.cell (p:=⟨ib,io+8,none⟩) hib).trans m0;have a4:=(hb6.cell (p:=⟨ib,io+8+2,none⟩) hib).trans m2;have a5:=(hb6.cell (p:=⟨ib,io+12,none⟩) hib).trans p0;have a6:=(hb6.cell (p:=⟨ab,ao+1,none⟩) hab).trans q1;have b1:bb<w6.heap.size:=Nt hbb hb6.size;have b2:ib<w6.heap.size:=Nt hib hb6.size;have b3:ab<w6.heap.size:=Nt hab hb6.size;have HB6:=Lh (HB5.out.trans (hb6.mono HB5.out.size));have g2:=hbf6.cell 2;have gl:=hbf6.lt;have d0:=hx66.cell 0;have d1:=hx66.cell 1;have d2:=hx66.cell 2;have d3:=hx66.cell 3;have d4:=hx66.cell 4;have d5:=hx66.cell 5;have d6:=hx66.cell 6;have dl:=hx66.lt;have s2:=hx6.cell 2;have sl:=hx6.lt;simp at g2 d0 d1 d2 d3 d4 d5 d6 s2;clear hb5 hG r2 h1 h2 hV5 hbf r4 r5 hy2 k0 k3 m0 m2 p0 q1 hx65 hbf6 hx66 hx6 hbb hib hab n5
 go_upto_region 3 with fail
 go_loud (rw[← hw6])
 clear hw6;go_wp2_with fail;refine h3.mono ?_;rintro e w7 ⟨rfl,hb7⟩;have HB7:=Lh (HB6.out.trans (hb7.mono HB6.out.size));clear hb7;go_wp2_with fail;go_ret;exact⟨rfl,HB7.out⟩
theorem YoP{x:PInst}{l:List PInst}(h:isQ x=true):Yl (x::l)=Yl l+1:=by simp[Yl,h]
theorem YoQ{x:PInst}{l:List PInst}(h:isQ x=false):Yl (x::l)=0:=by simp[Yl,h]
set_option maxHeartbeats 2000000 in
theorem Yi2{W w:World}{A:Option Addr}{c:Nat}{xs:List PInst}(hr:Rd W.heap.size A xs 4 (InstC W W.heap.size))(hl:xs.length≤1048576)(hops:∀x∈xs,0≤x.op∧x.op<27)(hW:Below W.heap.size W w)(k:Nat)(hk:k<xs.length) :
 Calls Tryz.prog 18 #[.slice A xs.length c,.int .i64 (k:Int)] w fun e w'=>e=.returned (.int .i64 (Yl (xs.drop (k+1))))∧Below w.heap.size w w':=by
 have hWs:=hW.size;obtain⟨N,hN⟩:∃N,Yl (xs.drop (k+1))=N:=⟨_,rfl⟩;rw[hN];have HN:=Lh hN;clear hN;go_enter Tryz.func18,Tryz.ntmps18;go_wp2_with fail
 go_loopw[5] (fun x wr=>∃n:Nat,x=.int .i64 n∧k+1+n≤xs.length∧Hid (N=n+Yl (xs.drop (k+1+n)))∧Below w.heap.size w wr) (fun x _=>xs.length-(intOf x).toNat)
 case atStart=>exact⟨0,rfl,ZO,by rw[Hid,HN.out];simp,Br _ _⟩
 case round=>as_aux_lemma=>
  obtain⟨n,rfl,hn,HE,hB⟩:=hrel;have hWr:Below W.heap.size W wr:=hW.trans (hB.mono hWs);have HB:=Lh hB;clear hB
  by_cases hlt:k+1+n<xs.length
  · as_aux_lemma=>
    obtain⟨y,hy⟩:∃y,xs[k+1+n]=y:=⟨_,rfl⟩;have hyg:xs[k+1+n]?=some y:=by rw[List.getElem?_eq_getElem hlt,hy]
    obtain⟨g,off,rfl,hg,y0,y1,⟨va,y2,A5,c5,rfl,-⟩,y3⟩:=hr (k+1+n) y hyg;obtain⟨o0,o1⟩:=hops y (List.mem_of_getElem? hyg);obtain⟨o,ho⟩:=Int.eq_ofNat_of_zero_le o0;have z0:=(hWr.cell (p:=⟨g,off+(k+1+n)*4,none⟩) hg).trans y0;have z1:=(hWr.cell (p:=⟨g,off+(k+1+n)*4+1,none⟩) hg).trans y1;have z2:=(hWr.cell (p:=⟨g,off+(k+1+n)*4+2,none⟩) hg).trans y2;have z3:=(hWr.cell (p:=⟨g,off+(k+1+n)*4+3,none⟩) hg).trans y3;have hgr:g<wr.heap.size:=Nt hg hWr.size;rw[ho]at z0;have hq:=fun w=>YlU (w:=w) o y.dst y.num A5 y.args.length c5 ZO
    have hiq:=Yhu ho;have HD:=Lh (show xs.drop (k+1+n)=y::xs.drop (k+1+(n+1)) by rw[List.drop_eq_getElem_cons hlt,hy];rfl);obtain⟨p,hp⟩:∃p,k+1+n=p:=⟨_,rfl⟩;rw[hp]at z0 z1 z2 z3;have hpz:(k:Int)+1+(n:Int)=(p:Int):=by omega
    have hpl:(p:Int)<(xs.length:Int):=by omega
    have hpn:p<xs.length:=by omega
    have HPP:=Lh hp;clear hr hops hy hyg y0 y1 y2 y3 hg o0 o1 ho hp hlt hn;generalize hxl:xs.length=m at *;clear hxl;cases hqq:Ybs o
    · as_aux_lemma=>
      rw[hqq]at hq hiq;have HE2:=Lh (show N=n by rw[HE.out,HD.out,YoQ hiq];rfl);clear hqq hiq HE HD HN;go_wp2_with(go_at_call 46;refine(hq _).mono ?_;rintro e w9 ⟨rfl,hb9⟩);go_ret;exact⟨Yt (by rw[HE2.out]),by have:=HB.out;exact BL⟩
    · as_aux_lemma=>
      rw[hqq]at hq hiq;have HE2:=Lh (show N=(n+1)+Yl (xs.drop (k+1+(n+1))) by rw[HE.out,HD.out,YoP hiq];omega);have HPN:=Lh (show k+1+(n+1)≤m by have:=HPP.out;omega);clear hqq hiq HE HD HN;go_wp2_with(go_at_call 46;refine(hq _).mono ?_;rintro e w9 ⟨rfl,hb9⟩);go_roundw
      case rel=>exact⟨n+1,ZN,HPN.out,HE2.out,by have:=HB.out;exact BL⟩
      case measure=>have:=HPN.out;first|(simp[intOf];done)|(simp[intOf];omega)
  · as_aux_lemma=>
    have HE2:=Lh (show N=n by rw[HE.out,List.drop_eq_nil_of_le ZO];rfl);obtain⟨p,hp⟩:∃p,k+1+n=p:=⟨_,rfl⟩;have hpz:(k:Int)+1+(n:Int)=(p:Int):=by omega
    have hpn:¬p<xs.length:=by omega
    have hpm:p≤1048577:=by omega
    clear hr hops hp hlt hn HE HN;go_wp2_with fail;go_ret;exact⟨Yt (by rw[HE2.out]),HB.out⟩
end Go.Proofs.YtjlclkcmfokobaaGreatDoor
