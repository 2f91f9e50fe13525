/- The walk of the document's Clean: one copy or idle phi at a time, the last one first. -/
import Derived.Test.YthhjlbflpjhahaaGreatDoorCpTCN
import Derived.Test.YthhjlbflpjhahaaGreatDoorCrQN
import Derived.Test.YthhjlbflpjhahaaGreatDoorSRefN
import Derived.Test.YthhjlbflpjhahaaGreatDoorGraphN
import Derived.Test.YthhjlbflpjhahaaGreatDoorFewQN
import Derived.Test.YthhjlbflpjhahaaGreatDoorSRightN
import Derived.Test.YthhjlbflpjhahaaGreatDoorSameN
import Derived.Test.YthhjlbflpjhahaaGreatDoorUniN
import Derived.Test.YthhjlbflpjhahaaGreatDoorCards
import Derived.ProofKit
namespace Go.Proofs.YthhjlbflpjhahaaGreatDoor
open Go.RowKit
set_option maxRecDepth 100000
def Ynr(F:PFunc)(w w':World)(e:Ending):Prop:=∃gv A c m,e=.returned (.tuple #[gv,.slice A F.vars.length c])∧FnV w' w'.heap.size gv (clF m F)∧w'.ownsRow w.heap.size 3 1 (.slice A F.vars.length c) F.vars.length ((Ydg m F.vars.length).map (Value.int .i64))∧CpI F (rkV F) m∧EqR F (fun u v=>m u=m v)
def DCl(g b:Nat):Prop:=b≠g∧b≠g+1
section
variable {F:PFunc} {m:Int→Int} {x y:Int} {n:Nat}
theorem YmI:(Ydg m n).length=n:=by simp[Ydg,Ycb]
theorem Yns:(Ydg m n).map (sbI x y)=Ydg (fun v=>sbI x y (m v)) n:=by
 unfold Ydg;rw[List.map_map];rfl
theorem Ynt:Ydg (fun v=>v) n=Ycb n:=by
 unfold Ydg;exact List.map_id' _
theorem Ynu(H:CpH F (rkV F))(h:CpI F (rkV F) m):YmO (clF m F):=by
 refine⟨fun b hb p hp=>?_,fun b hb i hi hc=>?_⟩
 · obtain⟨a,ha,rfl⟩:=List.mem_map.1 hb
   obtain⟨q,hq,rfl⟩:=List.mem_map.1 hp;have h1:=H.g.ph a ha q (List.mem_filter.1 hq).1;refine⟨h1.1.1,fun c hc=>?_⟩;obtain⟨d,hd,rfl⟩:=List.mem_map.1 hc;exact(h.rg d (h1.2 d hd)).1
 · obtain⟨a,ha,rfl⟩:=List.mem_map.1 hb
   obtain⟨q,hq,rfl⟩:=List.mem_map.1 hi;have hq:=(List.mem_filter.1 hq).1;have hc:isCp q=true:=hc;have h1:=H.g.cp a ha q hq hc;have h2:=H.g.one a ha q hq hc;refine⟨h1.1.1,?_⟩;show 0<(q.args.map m).length;rw[List.length_map];omega
end
structure DcS (F:PFunc) (w wr:World) (m:Int→Int) (v0 v1 v2 s:Value):Prop where
 bx:BoxAt wr w.heap.size #[v0,v1,v2] 26
 br:BoxAt wr (w.heap.size+1) #[.slice none 0 0,.slice none 0 0,.slice none 0 0] 26
 fn:FnD wr (DCl w.heap.size) (.agg #[v0,v1,v2]) (clF m F)
 own:wr.ownsRow (w.heap.size+2) 3 1 s F.vars.length ((Ydg m F.vars.length).map (Value.int .i64))
 hb:Below w.heap.size w wr
theorem DcS.below{F:PFunc}{w wr w':World}{m:Int→Int}{v0 v1 v2 s:Value}(h:DcS F w wr m v0 v1 v2 s)(hb:Below wr.heap.size wr w'):DcS F w w' m v0 v1 v2 s:=
 ⟨h.bx.below hb h.bx.lt,h.br.below hb h.br.lt,h.fn.turn (Tr.below hb),YA h.own hb,h.hb.trans (hb.mono h.hb.size)⟩
set_option maxHeartbeats 8000000 in
theorem Ynv{W w:World}{fv:Value}{F:PFunc}(hF:FnV W W.heap.size fv F)(hW:Below W.heap.size W w)(hN:Bnd F)(H:CpH F (rkV F))(n1:F.vars.length≤1000) :
 Calls Tryz.prog 30 #[fv] w fun e w'=>Ynr F w w' e∧Below w.heap.size w w':=by
 have hWs:=hW.size;obtain⟨A0,c0,A1,c1,A2,c2,rfl,l0,l1,l2,-,-,-,-,-,-⟩:=id hF.open_;unfold Len at l0 l1 l2;have HN:=Lh hN;have HH:=Lh H;obtain⟨w3,hw3⟩:∃w3:World,w3=(w.alloc (.cells #[.slice A0 F.vars.length c0,.slice A1 F.params.length c1,.slice A2 F.blocks.length c2] 26)).alloc (.cells #[.slice none 0 0,.slice none 0 0,.slice none 0 0] 26):=⟨_,rfl⟩;have hb3:Below w.heap.size w w3:=by rw[hw3];exact BL
 have hs3:w3.heap.size=w.heap.size+2:=by rw[hw3];simp
 have x0:BoxAt w3 w.heap.size #[.slice A0 F.vars.length c0,.slice A1 F.params.length c1,.slice A2 F.blocks.length c2] 26:=by rw[hw3];exact(BoxAt.new _ _ _).alloc _
 have x1:BoxAt w3 (w.heap.size+1) #[.slice none 0 0,.slice none 0 0,.slice none 0 0] 26:=by
  rw[hw3];have:=BoxAt.new (w.alloc (.cells #[.slice A0 F.vars.length c0,.slice A1 F.params.length c1,.slice A2 F.blocks.length c2] 26)) #[.slice none 0 0,.slice none 0 0,.slice none 0 0] 26;simpa using this
 have HFD:=Lh (show FnD w3 (DCl w.heap.size) (.agg #[.slice A0 F.vars.length c0,.slice A1 F.params.length c1,.slice A2 F.blocks.length c2]) F from
  FnV.d (hF.keep (Kept.of_below (hW.trans (hb3.mono hWs))) (Nr _)) ZO fun b hb=>⟨ZO,ZO⟩)
 have X0:=Lh x0;have X1:=Lh x1;have HB3:=Lh hb3;have q0:=x0.cell 0;have ql:=x0.lt;simp at q0;clear hF hN H x0 x1 hb3;go_enter Tryz.func30,Tryz.ntmps30
 go_upto_region 2 with fail
 go_loud (rw[← hw3])
 clear hw3;go_wp2_with fail;clear q0 ql
 go_loopw[4,11] (fun v i wr=>∃k:Nat,i=.int .i64 k∧k≤F.vars.length∧wr.ownsRow (w.heap.size+2) 3 1 v k ((Ycb k).map (Value.int .i64))∧Below w3.heap.size w3 wr) (fun _ i _=>F.vars.length-(intOf i).toNat)
 case atStart=>exact⟨0,rfl,Nz _,World.ownsRow_nil _ _ _ _,Br _ _⟩
 case round=>as_aux_lemma=>
  obtain⟨k,rfl,hk,hown,hb⟩:=hrel;obtain⟨Av,cv,rfl⟩:=Yh hown;have hs:=hb.size
  by_cases hlt:k<F.vars.length
  · as_aux_lemma=>
    have HBB:=Lh hb;clear hb;go_wp2_with(at_builtin;refine Yep _ rfl _ _ 23 rfl (w.heap.size+2) 3 8 Tryz.underlying23 Tryz.info3 rfl _ _ _ rfl hown _ rfl (.int .i64 (k:Int)) (by rfl) rfl ZO ZD ZO ?_;intro v' w8 hown8 hg8 hfr8;obtain⟨A8,c8,hv8⟩:=Yh hown8;subst hv8);go_roundw
    case rel=>exact⟨k+1,ZN,ZO,by rw[YgC,List.map_append];exact hown8,(HBB.out.alloc HBB.out.size _).grown hg8 (by have:=HBB.out.size;simp;omega) (fun j hj=>by have:=(hown.lt j hj).1;omega)⟩
    case measure=>simp[intOf];omega
  · as_aux_lemma=>
    obtain rfl:k=F.vars.length:=by omega
    have hS:DcS F w wr (fun v=>v) (.slice A0 F.vars.length c0) (.slice A1 F.params.length c1) (.slice A2 F.blocks.length c2) (.slice Av F.vars.length cv):=
     ⟨X0.out.below hb X0.out.lt,X1.out.below hb X1.out.lt,by rw[YkA];exact HFD.out.turn (Tr.below hb),by rw[Ynt];exact hown,HB3.out.trans (hb.mono HB3.out.size)⟩
    have HS:=Lh hS;clear hS X0 X1 HFD HB3 hb hown;go_wp2_with fail
    go_loopg[4] (F.vars.length+1) (fun gk s wr=>∃(m:Int→Int) (v0 v1 v2:Value),Hid (CpI F (rkV F) m∧YbS F m<gk)∧DcS F w wr m v0 v1 v2 s)
    case atStart=>exact⟨fun v=>v,_,_,_,⟨CpI.id_,by have:=YkM (F:=F) (m:=fun v=>v);omega⟩,HS.out⟩
    case round=>as_aux_lemma=>
     clear HS;obtain⟨m,v0,v1,v2,HM,hV⟩:=hrel;obtain⟨E0,e0,E1,e1,E2,e2,e9,-,-,g2,-⟩:=id hV.fn.fn.open_;simp only[Value.agg.injEq,Array.mk.injEq,List.cons.injEq,and_true]at e9;obtain⟨rfl,rfl,rfl⟩:=e9;obtain⟨Ar,cr,rfl⟩:=Yh hV.own;have HFI:=Lh (Yna hV.fn.fn (Br _ _) (Yma HN.out) (Ynu HH.out HM.out.1));have q0:=hV.bx.cell 0;have q1:=hV.bx.cell 1;have q2:=hV.bx.cell 2;have ql:=hV.bx.lt;simp at q0 q1 q2;have HV:=Lh hV;clear hV
     go_upto_region 8 with(go_at_call 55;refine HFI.out.mono ?_;rintro e w9 ⟨⟨x,y,rfl,hxy⟩,hb9⟩)
     have hV9:=HV.out.below hb9;clear q0 q1 q2 ql hb9 HFI;have q0:=hV9.bx.cell 0;have q1:=hV9.bx.cell 1;have q2:=hV9.bx.cell 2;have ql:=hV9.bx.lt;have rl:=hV9.br.lt;simp at q0 q1 q2;have HV9:=Lh hV9
     by_cases hx:x<0
     · as_aux_lemma=>
       have d0:decide (x<0)=true:=decide_eq_true hx;have HND:=Lh (hxy.resolve_left fun h=>ZO).2;have p0:=hV9.br.cell 0;have p1:=hV9.br.cell 1;have p2:=hV9.br.cell 2;have f0:=hV9.br.frozen 0;have f1:=hV9.br.frozen 1;have f2:=hV9.br.frozen 2;simp at p0 p1 p2;clear hV9 hx hxy;go_wp2;have hz:=HV9.out.br.set3 (a:=.slice E0 (clF m F).vars.length e0) (b:=.slice E1 (clF m F).params.length e1) (c:=.slice E2 (clF m F).blocks.length e2);have z0:=hz.cell 0;have z1:=hz.cell 1;have z2:=hz.cell 2;simp only[List.getElem?_toArray,List.getElem?_cons_zero,List.getElem?_cons_succ]at z0 z1 z2;have hfn:FnD _ _ _ _:=HV9.out.fn.turn (D':=fun _=>True) (w':=((w9.setCell ⟨w.heap.size+1,0,none⟩ (.slice E0 (clF m F).vars.length e0)).setCell ⟨w.heap.size+1,1,none⟩ (.slice E1 (clF m F).params.length e1)).setCell ⟨w.heap.size+1,2,none⟩ (.slice E2 (clF m F).blocks.length e2)) ⟨ZS,fun k hk _=>⟨Ydy hk.2,trivial⟩⟩;have how:=YcY (w':=((w9.setCell ⟨w.heap.size+1,0,none⟩ (.slice E0 (clF m F).vars.length e0)).setCell ⟨w.heap.size+1,1,none⟩ (.slice E1 (clF m F).params.length e1)).setCell ⟨w.heap.size+1,2,none⟩ (.slice E2 (clF m F).blocks.length e2)) HV9.out.own fun k hk=>Ydy (by have:=(Yn HV9.out.own hk).1;omega)
       have hBz:=((HV9.out.hb.setCell (p:=⟨w.heap.size+1,0,none⟩) ZS (.slice E0 (clF m F).vars.length e0)).setCell (p:=⟨w.heap.size+1,1,none⟩) ZS (.slice E1 (clF m F).params.length e1)).setCell (p:=⟨w.heap.size+1,2,none⟩) ZS (.slice E2 (clF m F).blocks.length e2);exact bodyPost_ret (v:=.tuple #[.agg #[.slice E0 (clF m F).vars.length e0,.slice E1 (clF m F).params.length e1,.slice E2 (clF m F).blocks.length e2],.slice Ar F.vars.length cr]) (by simp[results,Tryz.results30,go_sem,z0,z1,z2]) rfl ⟨⟨_,Ar,cr,m,rfl,hfn.fn,YbB how ZO,HM.out.1,YmY HM.out.1 HND.out⟩,hBz⟩
     · as_aux_lemma=>
       have d0:decide (x<0)=false:=decide_eq_false hx;have hst:=YmX HH.out.r HH.out.g HH.out.i HH.out.ip HH.out.p HM.out.1 (hxy.resolve_right fun h=>ZO).2;have HST:=Lh hst;have HPU:=Lh (Ynq (D':=DCl w.heap.size) x y hV9.fn (Br _ _) (Yma HN.out) (by rw[hst.2.1];exact Yma HN.out) (fun _ h=>h) (fun b hb=>⟨ZO,ZO⟩));clear hV9 hx hxy hst
       go_upto_region 11 with(go_at_call 56;refine HPU.out.mono ?_;rintro e w8 ⟨⟨gv,rfl,hG8⟩,hb8⟩;rw[HST.out.2.1]at hG8;obtain⟨C0,y0,C1,y1,C2,y2,rfl,-⟩:=id hG8.fn.open_;have u0:=HV9.out.bx.below hb8 ql;have t0:=u0.cell 0;have t1:=u0.cell 1;have t2:=u0.cell 2;have f0:=u0.frozen 0;have f1:=u0.frozen 1;have f2:=u0.frozen 2;have tl:=u0.lt;simp at t0 t1 t2)
       obtain⟨wz,hwz⟩:∃wz:World,wz=((w8.setCell ⟨w.heap.size,0,none⟩ (.slice C0 (clF (fun v=>sbI x y (m v)) F).vars.length y0)).setCell ⟨w.heap.size,1,none⟩ (.slice C1 (clF (fun v=>sbI x y (m v)) F).params.length y1)).setCell ⟨w.heap.size,2,none⟩ (.slice C2 (clF (fun v=>sbI x y (m v)) F).blocks.length y2):=⟨_,rfl⟩
       go_loud (rw[← hwz])
       have h8:=YA HV9.out.own hb8;have hoz:wz.ownsRow (w.heap.size+2) 3 1 (.slice Ar F.vars.length cr) F.vars.length ((Ydg m F.vars.length).map (Value.int .i64)):=by
        rw[hwz];exact YcY h8 fun k hk=>Ydy (by have:=(Yn h8 hk).1;omega)
       have bz:BoxAt wz w.heap.size #[.slice C0 (clF (fun v=>sbI x y (m v)) F).vars.length y0,.slice C1 (clF (fun v=>sbI x y (m v)) F).params.length y1,.slice C2 (clF (fun v=>sbI x y (m v)) F).blocks.length y2] 26:=by
        rw[hwz];exact u0.set3
       have rz:BoxAt wz (w.heap.size+1) #[.slice none 0 0,.slice none 0 0,.slice none 0 0] 26:=by
        rw[hwz];exact(((HV9.out.br.below hb8 rl).other (p:=⟨w.heap.size,0,none⟩) ZS _).other (p:=⟨w.heap.size,1,none⟩) ZS _).other (p:=⟨w.heap.size,2,none⟩) ZS _
       have fz:FnD wz (DCl w.heap.size) (.agg #[.slice C0 (clF (fun v=>sbI x y (m v)) F).vars.length y0,.slice C1 (clF (fun v=>sbI x y (m v)) F).params.length y1,.slice C2 (clF (fun v=>sbI x y (m v)) F).blocks.length y2]) (clF (fun v=>sbI x y (m v)) F):=by
        rw[hwz];exact hG8.turn ⟨ZS,fun k hk _=>⟨Ydy hk.1,hk⟩⟩
       have hBz:Below w.heap.size w wz:=by
        rw[hwz];exact(((HV9.out.hb.trans (hb8.mono HV9.out.hb.size)).setCell (p:=⟨w.heap.size,0,none⟩) (Nr _) _).setCell (p:=⟨w.heap.size,1,none⟩) (Nr _) _).setCell (p:=⟨w.heap.size,2,none⟩) (Nr _) _
       have hsz:w.heap.size+1<wz.heap.size:=rz.lt;obtain⟨-,-,hrd⟩:=Rd.of_own hoz;have hpl:=YmJ (c:=cr) x y hrd (by rw[YmI];omega) (Br _ _);rw[YmI,Yns]at hpl;have HPL:=Lh hpl;have BZ:=Lh bz;have RZ:=Lh rz;have FZ:=Lh fz;have HBZ:=Lh hBz;clear hwz hpl bz rz fz hBz hoz hrd h8 u0 t0 t1 t2 f0 f1 f2 tl hG8 hb8 q0 q1 q2 ql rl HPU HV HV9;go_wp2_with(go_at_call 57;refine HPL.out.mono ?_;rintro e w7 ⟨⟨v7,rfl,ho7⟩,hb7⟩)
       go_roundg (gk-1)
       case measure=>have:=HM.out.2;omega
       case rel=>exact⟨fun v=>sbI x y (m v),_,_,_,⟨HST.out.1,by have:=HM.out.2;have:=HST.out.2.2.1;omega⟩,BZ.out.below hb7 BZ.out.lt,RZ.out.below hb7 RZ.out.lt,FZ.out.turn (Tr.below hb7),YbB ho7 ZO,HBZ.out.trans (hb7.mono HBZ.out.size)⟩
theorem Yhq{W w:World}{fv:Value}{F:PFunc}(hU:Uni W)(hF:FnV W W.heap.size fv F)(hW:Below W.heap.size W w) :
 Calls Tryz.prog 21 #[fv] w fun e w'=>e=.returned (.bool (YaC F&&singleB F))∧Below w.heap.size w w':=by
 have hty:=fun(w:World) (h:Below W.heap.size W w)=>Ygr hU hF h
 have hWs:=hW.size;obtain⟨A0,c0,A1,c1,A2,c2,rfl,-⟩:=id hF.open_;cases hx:YaC F
 · rw[hx]at hty
   clear hx;go_enter Tryz.func21,Tryz.ntmps21;go_wp2_with fail;refine(hty _ (by(focus repeat(first|assumption|exact Br _ _|refine Below.drew ?_|refine Below.alloc ?_ (by first|omega|exact Below.size ZA|(simp;done)|(simp;omega)) _|(refine Below.trans ?_ (Below.mono ZA ?_);rotate_left;exact(by first|omega|exact Below.size ZA|(simp;done)|(simp;omega))))))).mono ?_;(rintro e w1 ⟨rfl,hb1⟩;obtain⟨hc1,hf1⟩:=Ya hb1;have hz1:=hb1.size;try simp at hz1;try have hy1:=Nl hz1;try have hx1:=Ns hy1;try have hw1:=Ns hx1);go_wp2;go_ret;exact⟨rfl,by(focus repeat(first|assumption|exact Br _ _|refine Below.drew ?_|refine Below.alloc ?_ (by first|omega|exact Below.size ZA|(simp;done)|(simp;omega)) _|(refine Below.trans ?_ (Below.mono ZA ?_);rotate_left;exact(by first|omega|exact Below.size ZA|(simp;done)|(simp;omega)))))⟩
 · rw[hx]at hty
   have hT:Yc F=true:=by unfold YaC at hx;rw[Bool.and_eq_true]at hx;exact hx.2
   have hs:=fun(w:World) (h:Below W.heap.size W w)=>Yhp hF h hT
   rw[YgL hT]at hs;clear hx hT;generalize singleB F=X at *;go_enter Tryz.func21,Tryz.ntmps21;go_wp2_with fail;refine(hty _ (by(focus repeat(first|assumption|exact Br _ _|refine Below.drew ?_|refine Below.alloc ?_ (by first|omega|exact Below.size ZA|(simp;done)|(simp;omega)) _|(refine Below.trans ?_ (Below.mono ZA ?_);rotate_left;exact(by first|omega|exact Below.size ZA|(simp;done)|(simp;omega))))))).mono ?_;(rintro e w1 ⟨rfl,hb1⟩;obtain⟨hc1,hf1⟩:=Ya hb1;have hz1:=hb1.size;try simp at hz1;try have hy1:=Nl hz1;try have hx1:=Ns hy1;try have hw1:=Ns hx1);go_wp2_with fail;refine(hs _ (by(focus repeat(first|assumption|exact Br _ _|refine Below.drew ?_|refine Below.alloc ?_ (by first|omega|exact Below.size ZA|(simp;done)|(simp;omega)) _|(refine Below.trans ?_ (Below.mono ZA ?_);rotate_left;exact(by first|omega|exact Below.size ZA|(simp;done)|(simp;omega))))))).mono ?_;(rintro e w2 ⟨rfl,hb2⟩;obtain⟨hc2,hf2⟩:=Ya hb2;have hz2:=hb2.size;try simp at hz2;try have hy2:=Nl hz2;try have hx2:=Ns hy2;try have hw2:=Ns hx2);go_wp2;go_ret;exact⟨rfl,by(focus repeat(first|assumption|exact Br _ _|refine Below.drew ?_|refine Below.alloc ?_ (by first|omega|exact Below.size ZA|(simp;done)|(simp;omega)) _|(refine Below.trans ?_ (Below.mono ZA ?_);rotate_left;exact(by first|omega|exact Below.size ZA|(simp;done)|(simp;omega)))))⟩
def Ycf(b:PBlock):Bool:=b.insts.all fun x=>decide (x.op<25)
theorem Yms{F:PFunc}{i:Nat}(hi:i<F.blocks.length)(h:Ycf (F.blk i)=false):noPi F=false:=by
 rw[← Bool.not_eq_true];intro hh;unfold noPi at hh;rw[List.all_eq_true]at hh;have:=hh _ (YG hi);unfold Ycf at h;rw[h]at this;cases this
theorem Ymt{F:PFunc}(h:∀i,i<F.blocks.length→Ycf (F.blk i)=true):noPi F=true:=by
 unfold noPi;rw[List.all_eq_true];intro b hb;obtain⟨i,hi,rfl⟩:=List.getElem_of_mem hb;have:=h i hi
 rwa [PFunc.blk,YC hi]at this
set_option maxHeartbeats 4000000 in
theorem Ymu{W w:World}{fv:Value}{F:PFunc}(hF:FnV W W.heap.size fv F)(hW:Below W.heap.size W w)(hT:Yc F=true) :
 Calls Tryz.prog 58 #[fv] w fun e w'=>e=.returned (.bool (Ycc F))∧Below w.heap.size w w':=by
 have hs:=fun(w':World) (h:Below W.heap.size W w')=>Yhp hF h hT
 have hWs:=hW.size;obtain⟨n1,n2⟩:=Yaa (Yv hT);have HTP:=Lh (fun n (hn:n<F.blocks.length)=>YdB hT hn);obtain⟨A0,c0,A1,c1,A2,c2,rfl,l0,l1,l2,-,-,-,r0,r1,r2⟩:=id hF.open_;unfold Len at *;have hb0:=(Br w.heap.size w).alloc (Nr _) (.cells #[.slice A0 F.vars.length c0,.slice A1 F.params.length c1,.slice A2 F.blocks.length c2] 26);have HNO:=Lh (fun(h:noPi F=false)=>show Ycc F=false by rw[Ycc,h];rfl);have HYE:=Lh (fun(h:noPi F=true)=>show Ycc F=YaV F by rw[Ycc,h];rfl);clear hT;go_enter Tryz.func58,Tryz.ntmps58;go_wp2
 go_loopw[10] (fun x wr=>∃n:Nat,x=.int .i64 n∧n≤F.blocks.length∧Hid (∀m,m<n→Ycf (F.blk m)=true)∧Below (w.heap.size+1) (w.alloc (.cells #[.slice A0 F.vars.length c0,.slice A1 F.params.length c1,.slice A2 F.blocks.length c2] 26)) wr) (fun x _=>F.blocks.length-(intOf x).toNat)
 case atStart=>exact⟨0,rfl,Nz _,fun m hm=>absurd hm (Nat.not_lt_zero _),Br _ _⟩
 case round=>as_aux_lemma=>
  obtain⟨n,rfl,hn,HA,hb⟩:=hrel;have hB:=hb0.trans (hb.mono (Nat.le_succ _));have hWr:Below W.heap.size W wr:=hW.trans (hB.mono hWs)
  by_cases hlt:n<F.blocks.length
  · obtain⟨bb,off,A3,c3,A4,c4,rfl,hbb,hnz,hy0,hy1,hy2,hy3,hy4,hy5,hy6,l3,l4,k3,k4,r3,r4⟩:=r2.blk hWr hlt
    have hpt:=HTP.out n hlt;unfold Len at l3 l4;have HNB:=Lh (fun h=>HNO.out (Yms hlt h));have hws:w.heap.size+1≤wr.heap.size:=by have:=hb.size;simpa using this
    obtain⟨wq,rfl⟩:∃wq:World,wq=wr:=⟨_,rfl⟩;go_wp2
    go_loopw[17] (fun x wr=>∃k:Nat,x=.int .i64 k∧k≤(F.blk n).insts.length∧Hid (∀j,j<k→((F.blk n).inst j).op<25)∧Below wq.heap.size wq wr) (fun x _=>(F.blk n).insts.length-(intOf x).toNat)
    case atStart=>exact⟨0,rfl,Nz _,fun m hm=>absurd hm (Nat.not_lt_zero _),by(focus repeat(first|assumption|exact Br _ _|refine Below.drew ?_|refine Below.alloc ?_ (by first|omega|exact Below.size ZA|(simp;done)|(simp;omega)) _|(refine Below.trans ?_ (Below.mono ZA ?_);rotate_left;exact(by first|omega|exact Below.size ZA|(simp;done)|(simp;omega)))))⟩
    case round=>as_aux_lemma=>
     obtain⟨k,rfl,hk,HK,hbk⟩:=hrel;have hBr:Below w.heap.size w wr:=hB.trans (hbk.mono hB.size);have hWi:Below W.heap.size W wr:=hW.trans (hBr.mono hWs)
     by_cases hkl:k<(F.blk n).insts.length
     · obtain⟨bp,op,A6,c6,rfl,hbp,hp0,hp1,hp2,hp3,l6,k6,-⟩:=r4.inst hWi hkl
       unfold Len at l6;clear hy0 hy1 hy2 hy3 hy4 hy5 hy6 hnz
       by_cases h25:25≤((F.blk n).inst k).op
       · have HF:=Lh (HNB.out (by
          unfold Ycf;rw[← Bool.not_eq_true,List.all_eq_true];intro hh;have:=of_decide_eq_true (hh _ (Ybe hkl))
          omega))
         go_wp2;go_ret;exact⟨Yb HF.out.symm,by(focus repeat(first|assumption|exact Br _ _|refine Below.drew ?_|refine Below.alloc ?_ (by first|omega|exact Below.size ZA|(simp;done)|(simp;omega)) _|(refine Below.trans ?_ (Below.mono ZA ?_);rotate_left;exact(by first|omega|exact Below.size ZA|(simp;done)|(simp;omega)))))⟩
       · have HE:=Lh (show((F.blk n).inst k).op<25 from ZO)
         go_wp2;go_roundw
         case rel=>exact⟨k+1,ZN,ZO,fun t ht=>if h:t<k then HK.out t h else by
          obtain rfl:t=k:=by omega
          exact HE.out,by(focus repeat(first|assumption|exact Br _ _|refine Below.drew ?_|refine Below.alloc ?_ (by first|omega|exact Below.size ZA|(simp;done)|(simp;omega)) _|(refine Below.trans ?_ (Below.mono ZA ?_);rotate_left;exact(by first|omega|exact Below.size ZA|(simp;done)|(simp;omega)))))⟩
         case measure=>simp[intOf];omega
     · obtain rfl:k=(F.blk n).insts.length:=by omega
       have HOK:=Lh (show Ycf (F.blk n)=true by
        unfold Ycf;rw[List.all_eq_true];intro x hx;obtain⟨j,hj,rfl⟩:=List.getElem_of_mem hx;have:=HK.out j hj;rw[PBlock.inst,YC hj]at this
        exact decide_eq_true this)
       go_wp2;go_roundw
       case rel=>exact⟨n+1,ZN,ZO,fun t ht=>if h:t<n then HA.out t h else by
        obtain rfl:t=n:=by omega
        exact HOK.out,hb.trans (hbk.mono hws)⟩
       case measure=>simp[intOf];omega
  · obtain rfl:n=F.blocks.length:=by omega
    have HF:=Lh (HYE.out (Ymt HA.out));obtain⟨q,q0,q1,q2⟩:=Ym hb;have hs':=hs wr hWr;rw[← HF.out]at hs';go_wp2_with fail;refine hs'.mono ?_;rintro e w9 ⟨rfl,hb9⟩;go_wp2;go_ret;exact⟨rfl,hB.trans (hb9.mono hB.size)⟩
theorem Yhr{W w:World}{fv:Value}{F:PFunc}(hU:Uni W)(hF:FnV W W.heap.size fv F)(hW:Below W.heap.size W w) :
 Calls Tryz.prog 31 #[fv] w fun e w'=>e=.returned (.bool (YaC F&&YbT F))∧Below w.heap.size w w':=by
 have hty:=fun(w:World) (h:Below W.heap.size W w)=>Ygr hU hF h
 have hWs:=hW.size;obtain⟨A0,c0,A1,c1,A2,c2,rfl,-⟩:=id hF.open_;cases hx:YaC F
 · rw[hx]at hty
   clear hx;go_enter Tryz.func31,Tryz.ntmps31;go_wp2_with fail;refine(hty _ (by(focus repeat(first|assumption|exact Br _ _|refine Below.drew ?_|refine Below.alloc ?_ (by first|omega|exact Below.size ZA|(simp;done)|(simp;omega)) _|(refine Below.trans ?_ (Below.mono ZA ?_);rotate_left;exact(by first|omega|exact Below.size ZA|(simp;done)|(simp;omega))))))).mono ?_;(rintro e w1 ⟨rfl,hb1⟩;obtain⟨hc1,hf1⟩:=Ya hb1;have hz1:=hb1.size;try simp at hz1;try have hy1:=Nl hz1;try have hx1:=Ns hy1;try have hw1:=Ns hx1);go_wp2;go_ret;exact⟨rfl,by(focus repeat(first|assumption|exact Br _ _|refine Below.drew ?_|refine Below.alloc ?_ (by first|omega|exact Below.size ZA|(simp;done)|(simp;omega)) _|(refine Below.trans ?_ (Below.mono ZA ?_);rotate_left;exact(by first|omega|exact Below.size ZA|(simp;done)|(simp;omega)))))⟩
 · rw[hx]at hty
   have hT:Yc F=true:=by unfold YaC at hx;rw[Bool.and_eq_true]at hx;exact hx.2
   have hs:=fun(w:World) (h:Below W.heap.size W w)=>Ymu hF h hT
   rw[YkT hT]at hs;clear hx hT;generalize YbT F=X at *;go_enter Tryz.func31,Tryz.ntmps31;go_wp2_with fail;refine(hty _ (by(focus repeat(first|assumption|exact Br _ _|refine Below.drew ?_|refine Below.alloc ?_ (by first|omega|exact Below.size ZA|(simp;done)|(simp;omega)) _|(refine Below.trans ?_ (Below.mono ZA ?_);rotate_left;exact(by first|omega|exact Below.size ZA|(simp;done)|(simp;omega))))))).mono ?_;(rintro e w1 ⟨rfl,hb1⟩;obtain⟨hc1,hf1⟩:=Ya hb1;have hz1:=hb1.size;try simp at hz1;try have hy1:=Nl hz1;try have hx1:=Ns hy1;try have hw1:=Ns hx1);go_wp2_with fail;refine(hs _ (by(focus repeat(first|assumption|exact Br _ _|refine Below.drew ?_|refine Below.alloc ?_ (by first|omega|exact Below.size ZA|(simp;done)|(simp;omega)) _|(refine Below.trans ?_ (Below.mono ZA ?_);rotate_left;exact(by first|omega|exact Below.size ZA|(simp;done)|(simp;omega))))))).mono ?_;(rintro e w2 ⟨rfl,hb2⟩;obtain⟨hc2,hf2⟩:=Ya hb2;have hz2:=hb2.size;try simp at hz2;try have hy2:=Nl hz2;try have hx2:=Ns hy2;try have hw2:=Ns hx2);go_wp2;go_ret;exact⟨rfl,by(focus repeat(first|assumption|exact Br _ _|refine Below.drew ?_|refine Below.alloc ?_ (by first|omega|exact Below.size ZA|(simp;done)|(simp;omega)) _|(refine Below.trans ?_ (Below.mono ZA ?_);rotate_left;exact(by first|omega|exact Below.size ZA|(simp;done)|(simp;omega)))))⟩
set_option maxHeartbeats 4000000 in
theorem Ynw{W w:World}{fv:Value}{F:PFunc}(hU:Uni W)(hF:FnV W W.heap.size fv F)(hW:Below W.heap.size W w)(hS:Yag F)(hN:Bnd F)(hR:YR F=false) :
 Calls Tryz.prog 28 #[fv] w fun e w'=>e=.returned (.tuple #[.agg #[.slice none 0 0,.slice none 0 0,.slice none 0 0],.int .i64 3])∧Below w.heap.size w w':=by
 have hWs:=hW.size;have hjn:=fun(w':World) (h:Below W.heap.size W w')=>Yhd hU hF h hS hN
 rw[show Yac (YR F)=3 by rw[hR];rfl]at hjn;obtain⟨A0,c0,A1,c1,A2,c2,rfl,-⟩:=id hF.open_;obtain⟨w3,hw3⟩:∃w3:World,w3=(w.alloc (.cells #[.slice A0 F.vars.length c0,.slice A1 F.params.length c1,.slice A2 F.blocks.length c2] 26)).alloc (.cells #[.slice none 0 0,.slice none 0 0,.slice none 0 0] 26):=⟨_,rfl⟩;have hb3:Below w.heap.size w w3:=by rw[hw3];exact BL
 have x1:BoxAt w3 (w.heap.size+1) #[.slice none 0 0,.slice none 0 0,.slice none 0 0] 26:=by
  rw[hw3];have:=BoxAt.new (w.alloc (.cells #[.slice A0 F.vars.length c0,.slice A1 F.params.length c1,.slice A2 F.blocks.length c2] 26)) #[.slice none 0 0,.slice none 0 0,.slice none 0 0] 26;simpa using this
 have hW3:=hW.trans (hb3.mono hWs);clear hR hU hS hF hN;go_enter Tryz.func28,Tryz.ntmps28;go_wp2_with(go_at_call 51;rw[← hw3];refine(hjn _ hW3).mono ?_;rintro e w4 ⟨rfl,hb4⟩;clear hw3;have hr8:=x1.below hb4 x1.lt;have e0:=hr8.cell 0;have e1:=hr8.cell 1;have e2:=hr8.cell 2;have f0:=hr8.frozen 0;have f1:=hr8.frozen 1;have f2:=hr8.frozen 2;have el:=hr8.lt;simp at e0 e1 e2);have hB8:=hb3.trans (hb4.mono hb3.size);have hz:=hr8.set3 (a:=.slice none 0 0) (b:=.slice none 0 0) (c:=.slice none 0 0);have z0:=hz.cell 0;have z1:=hz.cell 1;have z2:=hz.cell 2;simp only[List.getElem?_toArray,List.getElem?_cons_zero,List.getElem?_cons_succ]at z0 z1 z2;have hBz:=((hB8.setCell (p:=⟨w.heap.size+1,0,none⟩) ZS (.slice none 0 0)).setCell (p:=⟨w.heap.size+1,1,none⟩) ZS (.slice none 0 0)).setCell (p:=⟨w.heap.size+1,2,none⟩) ZS (.slice none 0 0);exact bodyPost_ret (v:=.tuple #[.agg #[.slice none 0 0,.slice none 0 0,.slice none 0 0],.int .i64 3]) (by simp[results,Tryz.results28,go_sem,z0,z1,z2]) rfl ⟨rfl,hBz⟩
set_option maxHeartbeats 8000000 in
theorem Ynx{W:World}{fv:Value}{F:PFunc}(hU:Uni W)(hF:FnV W W.heap.size fv F) :
 Calls Tryz.prog 6 #[fv] W fun e w'=>e=.returned (.bool true)∧Below W.heap.size W w':=by
 have hlv:=fun(w:World) (h:Below W.heap.size W w)=>Yme hU h
 have hfw:=fun(w:World) (h:Below W.heap.size W w)=>Yj2 hF h
 have hsg:=fun(w:World) (h:Below W.heap.size W w)=>Yhq hU hF h
 obtain⟨w,rfl⟩:∃w:World,w=W:=⟨_,rfl⟩;obtain⟨A0,c0,A1,c1,A2,c2,rfl,l0,l1,l2,-,-,-,r0,r1,r2⟩:=id hF.open_;unfold Len at *;clear r0 r1 r2;have hb0:=(Br w.heap.size w).alloc (Nr _) (.cells #[.slice A0 F.vars.length c0,.slice A1 F.params.length c1,.slice A2 F.blocks.length c2] 26);have HX0:=Lh (BoxAt.new w #[.slice A0 F.vars.length c0,.slice A1 F.params.length c1,.slice A2 F.blocks.length c2] 26);cases hx:Yr F
 · as_aux_lemma=>
   rw[hx]at hfw;clear hx hF hsg;go_enter Tryz.func6,Tryz.ntmps6;go_wp2_with fail;refine(hlv _ hb0).mono ?_;rintro e w1 ⟨rfl,hb1⟩;have hx1:=HX0.out.below hb1 HX0.out.lt;have hB1:=hb0.trans (hb1.mono hb0.size);have q0:=hx1.cell 0;have q1:=hx1.cell 1;have q2:=hx1.cell 2;have ql:=hx1.lt;simp at q0 q1 q2;go_wp2_with fail;refine(hfw _ hB1).mono ?_;rintro e w2 ⟨rfl,hb2⟩;have hB2:=hB1.trans (hb2.mono hB1.size);clear q0 q1 q2 ql;go_wp2_with fail;refine(hlv _ hB2).mono ?_;rintro e w3 ⟨rfl,hb3⟩;have hB3:=hB2.trans (hb3.mono hB2.size);go_wp2;go_ret;exact⟨rfl,hB3⟩
 have hS:=YcA hx;have hBn:=Ydd hx;have hv512:F.vars.length≤100:=by
  have:=hx;unfold Yr at this;simp only[Bool.and_eq_true,decide_eq_true_eq]at this;exact this.1.1.1.1
 rw[hx]at hfw;rw[show YaC F=Yc F by rw[YaC,hx,Bool.true_and]]at hsg;cases hR:YR F
 · as_aux_lemma=>
   have hcl:=fun(w':World) (h:Below w.heap.size w w')=>Ynw hU hF h hS hBn hR
   have hro:=fun(w':World) (h:Below w.heap.size w w')=>Yng hU hF h hS hBn hR
   rw[show(Yc F&&singleB F)=false from hR]at hsg;clear hx hR hU hF hS hBn;go_enter Tryz.func6,Tryz.ntmps6;go_wp2_with fail;refine(hlv _ hb0).mono ?_;rintro e w1 ⟨rfl,hb1⟩;have hx1:=HX0.out.below hb1 HX0.out.lt;have hB1:=hb0.trans (hb1.mono hb0.size);have q0:=hx1.cell 0;have q1:=hx1.cell 1;have q2:=hx1.cell 2;have ql:=hx1.lt;simp at q0 q1 q2;go_wp2_with fail;refine(hfw _ hB1).mono ?_;rintro e w2 ⟨rfl,hb2⟩;have hx2:=hx1.below hb2 hx1.lt;have hB2:=hB1.trans (hb2.mono hB1.size);clear q0 q1 q2 ql hb1 hb2 hx1 hB1 hlv hfw;have q0:=hx2.cell 0;have q1:=hx2.cell 1;have q2:=hx2.cell 2;have ql:=hx2.lt;simp at q0 q1 q2;go_wp2_with fail;refine(hcl _ hB2).mono ?_;rintro e w5 ⟨rfl,hb5⟩;obtain⟨w6,hw6⟩:∃w6:World,w6=w5.alloc (.cells #[.slice none 0 0,.slice none 0 0,.slice none 0 0] 26):=⟨_,rfl⟩;have hb6:Below w5.heap.size w5 w6:=by rw[hw6];exact YaP _ _
   have hg6:BoxAt w6 w5.heap.size #[.slice none 0 0,.slice none 0 0,.slice none 0 0] 26:=by rw[hw6];exact BoxAt.new _ _ _
   have hB5:=hB2.trans (hb5.mono hB2.size);have hx6:=(hx2.below hb5 hx2.lt).below hb6 (hx2.below hb5 hx2.lt).lt;have hB6:=hB5.trans (hb6.mono hB5.size);clear q0 q1 q2 ql hx2 hB2 hb5 hb6 hB5 hcl
   go_upto_region 4 with fail
   go_loud (rw[← hw6])
   clear hw6;have q0:=hx6.cell 0;have q1:=hx6.cell 1;have q2:=hx6.cell 2;have ql:=hx6.lt;simp at q0 q1 q2;go_wp2_with fail;refine(hro _ hB6).mono ?_;rintro e w7 ⟨rfl,hb7⟩;have hx7:=hx6.below hb7 hx6.lt;have hg7:=hg6.below hb7 hg6.lt;have hB7:=hB6.trans (hb7.mono hB6.size);clear q0 q1 q2 ql hx6 hg6 hB6 hb7 hro;have q0:=hx7.cell 0;have q1:=hx7.cell 1;have q2:=hx7.cell 2;have ql:=hx7.lt;simp at q0 q1 q2;go_wp2_with fail;refine(hsg _ hB7).mono ?_;rintro e w8 ⟨rfl,hb8⟩;have hg8:=hg7.below hb8 hg7.lt;have hB8:=hB7.trans (hb8.mono hB7.size);clear q0 q1 q2 ql hx7 hg7 hB7 hb8 hsg;have g2:=hg8.cell 2;have gl:=hg8.lt;simp at g2;go_wp2;go_ret;exact⟨rfl,hB8⟩
 as_aux_lemma=>
 have hTS:Yc F=true∧singleB F=true:=by
  have h:=hR;unfold YR at h;simpa using h
 have HSG:=Lh (Sgl.of hTS.1 hTS.2);have hcl:=fun(w':World) (h:Below w.heap.size w w')=>Yfi hU hF h hS hBn hR ZO
 have hro:=fun(w':World) (h:Below w.heap.size w w')=>YlY hU hF h hS hBn hR ZO
 have hdc:=fun(w':World) (h:Below w.heap.size w w')=>Ynv hF h hBn HSG.out.cpH ZO
 rw[show(Yc F&&singleB F)=true from hR]at hsg;have HDC:=Lh hdc;clear hx hR hU hF hS hBn hTS hdc;go_enter Tryz.func6,Tryz.ntmps6;go_wp2_with fail;refine(hlv _ hb0).mono ?_;rintro e w1 ⟨rfl,hb1⟩;have hx1:=HX0.out.below hb1 HX0.out.lt;have hB1:=hb0.trans (hb1.mono hb0.size);have q0:=hx1.cell 0;have q1:=hx1.cell 1;have q2:=hx1.cell 2;have ql:=hx1.lt;simp at q0 q1 q2;go_wp2_with fail;refine(hfw _ hB1).mono ?_;rintro e w2 ⟨rfl,hb2⟩;have hx2:=hx1.below hb2 hx1.lt;have hB2:=hB1.trans (hb2.mono hB1.size);clear q0 q1 q2 ql hb1 hb2 hx1 hB1 hlv hfw;have q0:=hx2.cell 0;have q1:=hx2.cell 1;have q2:=hx2.cell 2;have ql:=hx2.lt;simp at q0 q1 q2;go_wp2_with fail;refine(hcl _ hB2).mono ?_;rintro e w5 ⟨⟨gv,m,fr,rfl,hG,hgn⟩,hb5⟩;have HGN:=Lh hgn;obtain⟨G,hGe⟩:∃G,G=clF m F:=⟨_,rfl⟩;rw[← hGe]at hG;have HGE:=Lh hGe;obtain⟨B0,d0,B1,d1,B2,d2,rfl,m0,m1,m2,-,-,-,-,-,-⟩:=id hG.open_;unfold Len at m0 m1 m2;obtain⟨w6,hw6⟩:∃w6:World,w6=w5.alloc (.cells #[.slice B0 G.vars.length d0,.slice B1 G.params.length d1,.slice B2 G.blocks.length d2] 26):=⟨_,rfl⟩;have hb6:Below w5.heap.size w5 w6:=by rw[hw6];exact YaP _ _
 have hg6:BoxAt w6 w5.heap.size #[.slice B0 G.vars.length d0,.slice B1 G.params.length d1,.slice B2 G.blocks.length d2] 26:=by rw[hw6];exact BoxAt.new _ _ _
 have hB5:=hB2.trans (hb5.mono hB2.size);have hx6:=(hx2.below hb5 hx2.lt).below hb6 (hx2.below hb5 hx2.lt).lt;have hB6:=hB5.trans (hb6.mono hB5.size);have HG5:=Lh hG;have HB56:=Lh hb6;clear q0 q1 q2 ql hx2 hB2 hb5 hb6 hB5 hcl hG hgn hGe
 go_upto_region 4 with fail
 go_loud (rw[← hw6])
 clear hw6;have q0:=hx6.cell 0;have q1:=hx6.cell 1;have q2:=hx6.cell 2;have ql:=hx6.lt;simp at q0 q1 q2;go_wp2_with fail;refine(hro _ hB6).mono ?_;rintro e w7 ⟨⟨AR,cR,m',fr',rfl,ho7,hgn'⟩,hb7⟩;obtain rfl:m=m':=YjC HGN.out.c hgn'.c HGN.out.e hgn'.e;have hx7:=hx6.below hb7 hx6.lt;have hg7:=hg6.below hb7 hg6.lt;have hB7:=hB6.trans (hb7.mono hB6.size);have HB57:=Lh (HB56.out.trans (hb7.mono HB56.out.size));obtain⟨-,-,hr7⟩:=Rd.of_own ho7;have HR7:=Lh hr7;clear q0 q1 q2 ql hx6 hg6 hB6 hb7 hro hgn' ho7 hr7;have q0:=hx7.cell 0;have q1:=hx7.cell 1;have q2:=hx7.cell 2;have ql:=hx7.lt;simp at q0 q1 q2;go_wp2_with fail;refine(hsg _ hB7).mono ?_;rintro e w8 ⟨rfl,hb8⟩;have hx8:=hx7.below hb8 hx7.lt;have hg8:=hg7.below hb8 hg7.lt;have hB8:=hB7.trans (hb8.mono hB7.size);have HB58:=Lh (HB57.out.trans (hb8.mono HB57.out.size));have HB78:=Lh hb8;clear q0 q1 q2 ql hx7 hg7 hB7 hb8 hsg;have q0:=hx8.cell 0;have q1:=hx8.cell 1;have q2:=hx8.cell 2;have ql:=hx8.lt;simp at q0 q1 q2;go_wp2_with fail;refine(HDC.out _ hB8).mono ?_;rintro e w9 ⟨⟨gv2,AD,cD,m2',rfl,hG2,ho9,hC2,hE2⟩,hb9⟩;obtain rfl:m=m2':=YjC HGN.out.c hC2 HGN.out.e hE2;rw[← HGE.out]at hG2;obtain⟨D0,e0,D1,e1,D2,e2,rfl,-,-,-,-,-,-,-,-,-⟩:=id hG2.open_;obtain⟨wA,hwA⟩:∃wA:World,wA=w9.alloc (.cells #[.slice D0 G.vars.length e0,.slice D1 G.params.length e1,.slice D2 G.blocks.length e2] 26):=⟨_,rfl⟩;have hbA:Below w9.heap.size w9 wA:=by rw[hwA];exact YaP _ _
 have hgA:BoxAt wA w9.heap.size #[.slice D0 G.vars.length e0,.slice D1 G.params.length e1,.slice D2 G.blocks.length e2] 26:=by rw[hwA];exact BoxAt.new _ _ _
 have hg9:=hg8.below hb9 hg8.lt;have hgB:=hg9.below hbA hg9.lt;have hB9:=hB8.trans (hb9.mono hB8.size);have hBA:=hB9.trans (hbA.mono hB9.size);have hB59:=HB58.out.trans (hb9.mono HB58.out.size);have HSM:=Lh (Ymf (HG5.out.keep (Kept.of_below hB59) hB59.size) hG2 hbA);have HB7A:=Lh ((HB78.out.trans (hb9.mono HB78.out.size)).trans (hbA.mono (by have:=HB78.out.size;have:=hb9.size;omega)));obtain⟨-,-,hr9⟩:=Rd.of_own ho9;have HR9:=Lh hr9;have HBA:=Lh hbA;clear q0 q1 q2 ql hx8 hg8 hB8 hb9 hr9 ho9 hC2 hE2 hG2 hg9 hB9 hB59 hbA HDC
 go_upto_region 8 with fail
 go_loud (rw[← hwA])
 clear hwA;have g0:=hgB.cell 0;have g1:=hgB.cell 1;have g2:=hgB.cell 2;have gl:=hgB.lt;have p0:=hgA.cell 0;have p1:=hgA.cell 1;have p2:=hgA.cell 2;have pl:=hgA.lt;simp at g0 g1 g2 p0 p1 p2;have hnn:((F.vars.length:Int) !=(F.vars.length:Int))=false:=by simp
 go_wp2_with fail;refine HSM.out.mono ?_;rintro e wB ⟨rfl,hbB⟩;have HB7B:=Lh (HB7A.out.trans (hbB.mono HB7A.out.size));have HB9B:=Lh (HBA.out.trans (hbB.mono HBA.out.size));have HBB:=Lh (hBA.trans (hbB.mono hBA.size));clear g0 g1 g2 gl p0 p1 p2 pl hgA hgB hBA hbB HSM;go_wp2_with fail
 go_loopw[62] (fun s wr=>∃k:Nat,s=.int .i64 k∧k≤F.vars.length∧Below wB.heap.size wB wr) (fun s _=>F.vars.length-(intOf s).toNat)
 case atStart=>exact⟨0,rfl,Nz _,Br _ _⟩
 case round=>as_aux_lemma=>
  obtain⟨k,rfl,hk,hb⟩:=hrel
  by_cases hlt:k<F.vars.length
  · as_aux_lemma=>
    obtain⟨b7,o7,rfl,hb7,hc7⟩:=HR7.out.int (HB7B.out.trans (hb.mono HB7B.out.size)) (i:=k) (by rw[YmI];exact hlt);obtain⟨b9,o9,rfl,hb9,hc9⟩:=HR9.out.int (HB9B.out.trans (hb.mono HB9B.out.size)) (i:=k) (by rw[YmI];exact hlt);generalize ith (Ydg m F.vars.length) k=z at *;have d0:(z !=z)=false:=by simp
    have HB:=Lh hb;clear hb hnn;go_wp2_with fail
    go_quiet (fail)
    go_wp2_with fail;go_roundw
    case rel=>exact⟨k+1,ZN,hlt,YQ HB.out _⟩
    case measure=>simp[intOf];omega
  · as_aux_lemma=>
    obtain rfl:k=F.vars.length:=by omega
    have HB:=Lh (HBB.out.trans (hb.mono HBB.out.size));clear hb hnn;go_wp2_with fail;go_ret;exact⟨rfl,HB.out⟩
end Go.Proofs.YthhjlbflpjhahaaGreatDoor
namespace Go.Proofs.YthhjlbflpjhahaaGreatDoor
open Go.ChangeShapes Go.WideShapes Go.ChangeAt Go.RowKit
set_option maxRecDepth 100000
theorem Yny(os:Os)(started:os.Started)(H:Type)(enc:TypeId×Value→H) :
 ReturnsInHanded {} Tryz.checked os 6 .any (fun w args=>(Rows.copiesTellsSpec.pre enc Tryz.prog Tryz.f6 [] false w args∧laidMetH Tryz.prog Ycd w)∧sizedMet enc Tryz.prog Tryz.f6 (OpenSpec.ofChange Rows.copiesTellsSpec) false w args)
  (Rows.copiesTellsSpec.post enc Tryz.prog Tryz.f6 false true false false):=by
 refine returnsInHanded_of_change_and (C:=Tryz.checked) (X:=fun w _=>laidMetH Tryz.prog Ycd w) (fun _ _ _ hh h=>h.of_heap hh) own started ZK Tryz.func6
  (ChangeSpec.witness_shaped (enc:=enc) (C:=Tryz.checked) (os:=os) (X:=fun w _=>laidMetH Tryz.prog Ycd w) false (World.laidAll Tryz.prog os Ycd) #[.agg #[.slice none 0 0,.slice none 0 0,.slice none 0 0]] 8 (World.laidAll_os _ _ _)
    (World.shaped_of_ZipB ZK ZK) ZK ZK ZK
    (by rw[MakeChecks.laidMetH_plain _ _ _ ZK];exact YlL os _)) ?_
 intro W base args ds gs before hval0 hW _ hsz hL _;have hval:∀(j:Nat) t v,(Tryz.f6).params[j]?=some t→args[j]?=some v→Value.okWide Tryz.prog W .any base t v:=hval0;have hW':=hW;obtain⟨p,q,hA0,hV,rfl,_,_⟩:=hW;have hA:DataW.TrodAll enc Tryz.prog W 0 (fun _=>true) true (Tryz.f6).params.toList args.toList ds p:=hA0;rw[Tryz.params6]at hA hval hsz;obtain⟨v0,d0,rfl,rfl,h0⟩:=trodAll_one hA;obtain⟨rfl,rfl⟩:=trodVars_none hV;simp only[List.append_nil]at hW';rw[MakeChecks.laidMetH_plain _ _ _ ZK]at hL;have hU:=YlK hL;have hwt:Wt 26 d0:=by
  intro x hx;have hm:x∈DataW.weightsEach Tryz.prog ([26]++DataSpec.varTypes Tryz.prog Rows.copiesTellsSpec.plain) ([d0]++[]):=by simp[DataW.weightsEach,hx]
  have:=List.all_eq_true.1 hsz x hm;simpa using this
 obtain⟨F,hF⟩:=YlH (hval 0 _ v0 rfl rfl) h0 hwt;have hlt:∀x∈p,x.block<W.heap.size:=fun x hx=>by simpa using hW'.lt x hx
 refine(Ynx hU hF).mono fun e W' ⟨he,hb⟩=>?_
 subst he;exact⟨_,rfl,_,_,_,[],_,[],hW',trodAll_mk1 (shut_bool Tryz.underlying4 _),trodAll_mk1 (Below.trod YlI ZK (of_decide_eq_true ZK) h0 hb hlt),rfl,hb.frame _,fun h=>by cases h⟩
theorem Ynz:Rows.copiesTellsRow.holds Tryz.pinned (OpenSpec.ofChange Rows.copiesTellsSpec):=
 OpenClaim.holds_of_wide 6 Tryz.f6 rfl rfl rfl rfl rfl rfl rfl ⟨rfl,rfl,rfl,rfl,rfl⟩ rfl rfl rfl rfl rfl ZK Tryz.func6 ZK
  (of_decide_eq_true ZK) (by unfold Func.isWrapper;first|(rw[if_pos (by decide +kernel)];kernel_rfl)|(rw[if_neg (by decide +kernel)];exact⟨rfl,rfl⟩))
  (fun os started H enc _=>Yny os started H enc)
theorem ctells_card:Rows.CopiesTellsCardSaid:=
 Claim7.holds_tied_plain_at .later [] [.data,.pinned] true Rows.copiesTellsCard.stood.harness false Ynz (fun _ h=>by cases h) ZK (fun _ h=>by cases h) copiesTells_row_tie rfl ⟨rfl,rfl⟩ ZK rfl
  (fun f fn hf hfn=>by
    obtain rfl:f=6:=Option.some.inj ((show(Tryz.prog).funcNamed Rows.copiesTellsRow.func=some 6 from ZK).symm.trans hf) |>.symm;obtain rfl:fn=Tryz.f6:=(Option.some.inj (Tryz.func6.symm.trans hfn)).symm
    exact⟨ZK,fun j t ht=>by
     rw[Tryz.params6]at ht;have hm:t∈[26]:=by simpa using Array.mem_of_getElem? ht
     have hall:([26].all fun u=>!(Tryz.prog).wantsStandIn u)=true:=by kernel_rfl
     exact(show(Tryz.prog).wantsStandIn t=false by simpa using List.all_eq_true.1 hall t hm)⟩)
  ZK
#print axioms ctells_card
end Go.Proofs.YthhjlbflpjhahaaGreatDoor
