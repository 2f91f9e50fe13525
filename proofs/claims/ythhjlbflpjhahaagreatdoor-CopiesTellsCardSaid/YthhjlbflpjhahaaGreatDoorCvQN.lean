/- The walks of the document's copies: what an idle phi's x is, and a row with y for x. -/
import Derived.Test.YthhjlbflpjhahaaGreatDoorCpQN
import Derived.Test.YthhjlbflpjhahaaGreatDoorMemTN
import Derived.Test.YthhjlbflpjhahaaGreatDoorListsN
namespace Go.Proofs.YthhjlbflpjhahaaGreatDoor
open Go.RowKit
set_option maxRecDepth 100000
def idN(x:Int):List Int→Int→Int
 |[],o=>o
 |a::l,o=>if a=x then idN x l o else if 0≤o∧o≠a then -1 else idN x l a
section
variable {x y o:Int} {l:List Int} {p:PPhi}
theorem YmZ{k:Nat}(hk:k<l.length):idN x (l.drop k) o=if ith l k=x then idN x (l.drop (k+1)) o else if 0≤o∧o≠ith l k then -1 else idN x (l.drop (k+1)) (ith l k):=by
 rw[List.drop_eq_getElem_cons hk,idN];simp[ith,List.getD_eq_getElem?_getD,hk]
theorem YmG:∀{l:List Int} {o:Int} {f:Bool},(∀a∈l,0≤a)→(f=true→0≤o)→idN x l (if f=true then o else -1)=if(onlyN (fun v=>v) x l o f).2=true then(onlyN (fun v=>v) x l o f).1 else -1
 |[],o,f,_,_=>rfl
 |a::l,o,f,h,hf=>by
  have h':∀c∈l,0≤c:=fun c hc=>h c (List.mem_cons_of_mem _ hc)
  have ha:=h a (List.mem_cons_self ..);rw[idN,onlyN]
  by_cases e:a=x
  · rw[if_pos e,if_pos e]
    exact YmG h' hf
  · rw[if_neg e,if_neg e]
    cases f
    · have e1:¬(0≤(if(false:Bool)=true then o else -1)∧(if(false:Bool)=true then o else -1)≠a):=by simp
      have e2:¬((false:Bool)=true∧a≠o):=by simp
      rw[if_neg e1,if_neg e2];have:=YmG (o:=a) (f:=true) h' fun _=>ha
      simpa using this
    · by_cases e2:a=o
      · subst e2
        have e1:¬(0≤(if(true:Bool)=true then a else -1)∧(if(true:Bool)=true then a else -1)≠a):=by simp
        have e3:¬((true:Bool)=true∧a≠a):=by simp
        rw[if_neg e1,if_neg e3];have:=YmG (o:=a) (f:=true) h' fun _=>ha
        simpa using this
      · have e1:0≤(if(true:Bool)=true then o else -1)∧(if(true:Bool)=true then o else -1)≠a:=⟨by simpa using hf rfl,by simpa using fun h=>e2 h.symm⟩
        rw[if_pos e1,if_pos (⟨rfl,e2⟩:(true:Bool)=true∧a≠o)];rfl
theorem YmM(h:∀a∈p.args,0≤a):idN p.dst p.args (-1)=if(onlyN (fun v=>v) p.dst p.args p.dst false).2=true then(onlyN (fun v=>v) p.dst p.args p.dst false).1 else -1:=by
 have:=YmG (x:=p.dst) (o:=p.dst) (f:=false) h fun e=>by cases e
 simpa using this
theorem Ym0(h:∀a∈p.args,0≤a)(hy:0≤idN p.dst p.args (-1)):YbD (fun v=>v) p (idN p.dst p.args (-1)):=by
 rw[YmM h]at hy ⊢;obtain⟨z,b,e⟩:∃z b,onlyN (fun v=>v) p.dst p.args p.dst false=(z,b):=⟨_,_,rfl⟩;rw[e]at hy ⊢;cases b
 · simp at hy
 · exact YkC e
theorem Ym1(h:∀a∈p.args,0≤a)(hy:¬0≤idN p.dst p.args (-1)):∀y,¬YbD (fun v=>v) p y:=by
 rw[YmM h]at hy;obtain⟨z,b,e⟩:∃z b,onlyN (fun v=>v) p.dst p.args p.dst false=(z,b):=⟨_,_,rfl⟩;rw[e]at hy;cases b
 · exact YkD e
 · intro y hI
   refine hy ?_;obtain⟨a,ha,e2⟩:=(YkC e).2.2;show 0≤z;rw[← e2];exact h a ha
end
set_option maxHeartbeats 4000000 in
theorem Ym2{W w:World}{c:Nat}{p:PPhi}{A:Option Addr}{fr:Value}(hA:Rd W.heap.size A p.args 1 (Yi W))(hl:Len p.args.length)(hW:Below W.heap.size W w) :
 Calls Tryz.prog 87 #[.agg #[.int .i64 p.dst,.slice A p.args.length c,fr]] w fun e w'=>e=.returned (.int .i64 (idN p.dst p.args (-1)))∧Below w.heap.size w w':=by
 have hws:=hW.size;unfold Len at hl;generalize p.dst=x at *;generalize p.args=l at *;go_enter Tryz.func87,Tryz.ntmps87;go_wp2_with fail
 go_loopw[3,9] (fun o i wr=>∃(k:Nat) (o':Int),o=.int .i64 o'∧i=.int .i64 k∧k≤l.length∧Hid (idN x l (-1)=idN x (l.drop k) o')∧BoxAt wr w.heap.size #[.int .i64 x,.slice A l.length c,fr] 64∧Below w.heap.size w wr) (fun _ i _=>l.length-(intOf i).toNat)
 case atStart=>exact⟨0,-1,rfl,rfl,Nz _,(by rw[List.drop_zero]:idN x l (-1)=idN x (l.drop 0) (-1)),BoxAt.new _ _ _,(Br _ _).alloc (Nr _) _⟩
 case round=>as_aux_lemma=>
  obtain⟨k,o',rfl,rfl,hk,HE,hx,hB⟩:=hrel;have q0:=hx.cell 0;have ql:=hx.lt;simp at q0
  by_cases hlt:k<l.length
  · as_aux_lemma=>
    obtain⟨b,off,rfl,hb,hc⟩:=hA.int (hW.trans (hB.mono hws)) hlt;have HES:=Lh (HE.out.trans (YmZ hlt));have HX:=Lh hx;have HB:=Lh hB;generalize ith l k=z at *;clear hx hB HE
    by_cases e1:z=x
    · as_aux_lemma=>
      have d0:(z==x)=true:=by rw[beq_iff_eq];exact e1
      have HE2:=Lh (HES.out.trans (if_pos e1));clear HES e1;go_wp2_with fail;go_roundw
      case rel=>exact⟨k+1,o',rfl,ZN,ZO,HE2.out,HX.out,HB.out⟩
      case measure=>simp[intOf];omega
    · have d0:(z==x)=false:=by rw[beq_eq_false_iff_ne];exact e1
      have HE2:=Lh (HES.out.trans (if_neg e1))
      by_cases h0:0≤o'
      · have d1:decide (o'≥0)=true:=decide_eq_true h0
        by_cases e2:o'=z
        · as_aux_lemma=>
          have d2:(o' !=z)=false:=by rw[bne_eq_false_iff_eq];exact e2
          have HE3:=Lh (HE2.out.trans (if_neg fun h=>h.2 e2));clear HES HE2 e1 e2 h0;go_wp2_with fail;go_roundw
          case rel=>exact⟨k+1,z,rfl,ZN,ZO,HE3.out,HX.out,HB.out⟩
          case measure=>simp[intOf];omega
        · as_aux_lemma=>
          have d2:(o' !=z)=true:=by rw[bne_iff_ne];exact e2
          have HE3:=Lh (HE2.out.trans (if_pos ⟨h0,e2⟩));clear HES HE2 e1 e2 h0;go_wp2_with fail;go_ret;exact⟨by rw[HE3.out];rfl,HB.out⟩
      · as_aux_lemma=>
        have d1:decide (o'≥0)=false:=decide_eq_false h0;have HE3:=Lh (HE2.out.trans (if_neg fun h=>h0 h.1));clear HES HE2 e1 h0;go_wp2_with fail;go_roundw
        case rel=>exact⟨k+1,z,rfl,ZN,ZO,HE3.out,HX.out,HB.out⟩
        case measure=>simp[intOf];omega
  · as_aux_lemma=>
    obtain rfl:k=l.length:=by omega
    have HB:=Lh hB;have HE2:=Lh (HE.out.trans (by rw[List.drop_length];rfl:idN x (l.drop l.length) o'=o'));clear hB hx HE;go_wp2_with fail;go_ret;exact⟨by rw[HE2.out];rfl,HB.out⟩
theorem Ym3{x y:Int}{l:List Int}{k:Nat}(h:k<l.length):(((l.take (k+1)).map (sbI x y)).map (Value.int .i64))=((l.take k).map (sbI x y)).map (Value.int .i64)++[.int .i64 (sbI x y (ith l k))]:=by
 rw[List.take_add_one,List.map_append,List.map_append];simp[ith,List.getD_eq_getElem?_getD,h]
set_option maxHeartbeats 4000000 in
theorem YmJ{W w:World}{c:Nat}{l:List Int}{A:Option Addr}(x y:Int)(hA:Rd W.heap.size A l 1 (Yi W))(hl:l.length≤100000)(hW:Below W.heap.size W w) :
 Calls Tryz.prog 57 #[.slice A l.length c,.int .i64 x,.int .i64 y] w fun e w'=>(∃v,e=.returned v∧w'.ownsRow w.heap.size 3 1 v l.length ((l.map (sbI x y)).map (Value.int .i64)))∧Below w.heap.size w w':=by
 have hws:=hW.size;go_enter Tryz.func57,Tryz.ntmps57;go_wp2_with fail
 go_loopw[7,12] (fun v i wr=>∃k:Nat,i=.int .i64 k∧k≤l.length∧wr.ownsRow w.heap.size 3 1 v k (((l.take k).map (sbI x y)).map (Value.int .i64))∧Below w.heap.size w wr) (fun _ i _=>l.length-(intOf i).toNat)
 case atStart=>exact⟨0,rfl,Nz _,World.ownsRow_nil _ _ _ _,Br _ _⟩
 case round=>as_aux_lemma=>
  obtain⟨k,rfl,hk,hown,hB⟩:=hrel;obtain⟨Av,cv,rfl⟩:=Yh hown;have hs:=hB.size
  by_cases hlt:k<l.length
  · as_aux_lemma=>
    obtain⟨b,off,rfl,hb,hc⟩:=hA.int (hW.trans (hB.mono hws)) hlt;have HT:=Lh (Ym3 (x:=x) (y:=y) hlt);have HB:=Lh hB;generalize ith l k=z at *;clear hB;obtain⟨wi,rfl⟩:∃wi:World,wi=wr:=⟨_,rfl⟩
    by_cases e1:z=x
    · as_aux_lemma=>
      have d0:(z==x)=true:=by rw[beq_iff_eq];exact e1
      have HS:=Lh (show sbI x y z=y from if_pos e1);clear e1;go_wp2_with(at_builtin;refine Yep _ rfl _ _ 23 rfl w.heap.size 3 8 Tryz.underlying23 Tryz.info3 rfl _ _ _ rfl hown _ rfl (.int .i64 y) (by rfl) rfl ZO ZD ZO ?_;intro v' w9 hown9 hg9 hfr9;obtain⟨A9,c9,hv9⟩:=Yh hown9;subst hv9);go_roundw
      case rel=>exact⟨k+1,ZN,ZO,by rw[HT.out,HS.out];exact hown9,(HB.out.alloc HB.out.size _).grown hg9 (by have:=HB.out.size;simp;omega) (fun j hj=>by have:=(hown.lt j hj).1;omega)⟩
      case measure=>simp[intOf];omega
    · as_aux_lemma=>
      have d0:(z==x)=false:=by rw[beq_eq_false_iff_ne];exact e1
      have HS:=Lh (show sbI x y z=z from if_neg e1);clear e1;go_wp2_with(at_builtin;refine Yep _ rfl _ _ 23 rfl w.heap.size 3 8 Tryz.underlying23 Tryz.info3 rfl _ _ _ rfl hown _ rfl (.int .i64 z) (by rfl) rfl ZO ZD ZO ?_;intro v' w9 hown9 hg9 hfr9;obtain⟨A9,c9,hv9⟩:=Yh hown9;subst hv9);go_roundw
      case rel=>exact⟨k+1,ZN,ZO,by rw[HT.out,HS.out];exact hown9,(HB.out.alloc HB.out.size _).grown hg9 (by have:=HB.out.size;simp;omega) (fun j hj=>by have:=(hown.lt j hj).1;omega)⟩
      case measure=>simp[intOf];omega
  · as_aux_lemma=>
    obtain rfl:k=l.length:=by omega
    have HB:=Lh hB;have HO:=Lh hown;clear hB hown;go_wp2_with fail;go_ret;refine⟨⟨_,rfl,?_⟩,HB.out⟩;have h:=HO.out;rw[List.take_length]at h;exact h
def NoC(b:PBlock):Prop:=(∀x∈b.insts,isCp x=false)∧∀p∈b.phis,∀y,¬YbD (fun v=>v) p y
def Ym4(F:PFunc)(e:Ending):Prop:=∃x y:Int,e=.returned (.tuple #[.int .i64 x,.int .i64 y])∧((0≤x∧Fnd F x y)∨(x=-1∧∀u v,¬Fnd F u v))
structure YmO (F:PFunc):Prop where
 ph:∀b∈F.blocks,∀p∈b.phis,0≤p.dst∧∀a∈p.args,0≤a
 cp:∀b∈F.blocks,∀i∈b.insts,isCp i=true→0≤i.dst∧0<i.args.length
section
variable {F:PFunc} {b:PBlock} {n k:Nat}
theorem Ym5(h:∀j:Nat,(-1:Int)<j→j<F.blocks.length→NoC (F.blk j)):∀u v,¬Fnd F u v:=by
 rintro u v ⟨b,hb,h2⟩;obtain⟨j,hj,rfl⟩:=YaL hb;have h1:=h j ZO hj;rcases h2 with⟨i,hi,hc,-⟩|⟨p,hp,-,hI⟩
 · rw[h1.1 i hi]at hc
   cases hc
 · exact h1.2 p hp v hI
theorem Ym6{i:Nat}(h:∀j:Nat,(i:Int)<j→j<F.blocks.length→NoC (F.blk j))(hi:NoC (F.blk i)):∀j:Nat,(i:Int)-1<j→j<F.blocks.length→NoC (F.blk j):=fun j h1 h2=>by
 by_cases e:j=i
 · rw[e]
   exact hi
 · exact h j ZO h2
theorem Ym7(h1:∀j:Nat,(-1:Int)<j→j<b.insts.length→isCp (b.inst j)=false)(h2:∀j:Nat,(-1:Int)<j→j<b.phis.length→∀y,¬YbD (fun v=>v) (b.phi j) y):NoC b:=by
 refine⟨fun x hx=>?_,fun p hp=>?_⟩
 · obtain⟨j,hj,rfl⟩:=YbI hx
   exact h1 j ZO hj
 · obtain⟨j,hj,rfl⟩:=YeQ hp
   exact h2 j ZO hj
theorem Ym8(hn:n<F.blocks.length)(hk:k<(F.blk n).insts.length)(hc:isCp ((F.blk n).inst k)=true):Fnd F ((F.blk n).inst k).dst (ith ((F.blk n).inst k).args 0):=
 ⟨_,YG hn,.inl ⟨_,List.mem_of_getElem? (PBlock.inst_get hk),hc,rfl,rfl⟩⟩
theorem Ym9(hn:n<F.blocks.length)(hk:k<(F.blk n).phis.length){y:Int}(hc:YbD (fun v=>v) ((F.blk n).phi k) y):Fnd F ((F.blk n).phi k).dst y:=
 ⟨_,YG hn,.inr ⟨_,List.mem_of_getElem? (PBlock.phi_get hk),rfl,hc⟩⟩
end
set_option maxHeartbeats 8000000 in
theorem Yna{W w:World}{fv:Value}{F:PFunc}(hF:FnV W W.heap.size fv F)(hW:Below W.heap.size W w)(hN:Bnd F)(hO:YmO F) :
 Calls Tryz.prog 55 #[fv] w fun e w'=>Ym4 F e∧Below w.heap.size w w':=by
 have hWs:=hW.size;obtain⟨A0,c0,A1,c1,A2,c2,rfl,l0,l1,l2,-,-,-,-,-,r2⟩:=id hF.open_;unfold Len at l0 l1 l2;have nb:=hN.blocks;have HN:=Lh hN;have HO:=Lh hO;obtain⟨W1,hW1⟩:∃W1:World,W1=(w.alloc (.cells #[.slice A0 F.vars.length c0,.slice A1 F.params.length c1,.slice A2 F.blocks.length c2] 26)):=⟨_,rfl⟩;have hb1:Below w.heap.size w W1:=by rw[hW1];exact BL
 have x1:BoxAt W1 w.heap.size #[.slice A0 F.vars.length c0,.slice A1 F.params.length c1,.slice A2 F.blocks.length c2] 26:=by rw[hW1];exact BoxAt.new _ _ _
 clear hF hN hO;have q2:=x1.cell 2;have ql:=x1.lt;simp at q2;go_enter Tryz.func55,Tryz.ntmps55
 go_upto_region 1 with fail
 go_loud (rw[← hW1])
 clear hW1;go_wp2_with fail;clear q2 ql
 go_loopw[4] (fun s wr=>∃i:Int,s=.int .i64 i∧-1≤i∧i<F.blocks.length∧Hid (∀j:Nat,i<j→j<F.blocks.length→NoC (F.blk j))∧BoxAt wr w.heap.size #[.slice A0 F.vars.length c0,.slice A1 F.params.length c1,.slice A2 F.blocks.length c2] 26∧Below w.heap.size w wr) (fun s _=>(intOf s+1).toNat)
 case atStart=>exact⟨(F.blocks.length:Int)-1,by first|rfl|go_num,ZO,ZO,fun j h1 h2=>ZO,x1,hb1⟩
 case round=>as_aux_lemma=>
  clear x1 hb1;obtain⟨i,rfl,hi0,hi1,HNO,hx,hB⟩:=hrel
  by_cases h0:0≤i
  · as_aux_lemma=>
    obtain⟨n,rfl⟩:∃n:Nat,i=n:=⟨i.toNat,ZO⟩;have hlt:n<F.blocks.length:=by omega
    have hge:decide ((n:Int)≥0)=true:=decide_eq_true h0;have hWr:Below W.heap.size W wr:=hW.trans (hB.mono hWs);obtain⟨bb,off,A3,c3,A4,c4,rfl,hbb,hnz,hy0,hy1,hy2,hy3,hy4,hy5,hy6,l3,l4,k3,k4,r3,r4⟩:=r2.blk hWr hlt;have hpn:=HN.out.parts _ (YG hlt);have q2:=hx.cell 2;have ql:=hx.lt;simp at q2;obtain⟨wi,rfl⟩:∃wi:World,wi=wr:=⟨_,rfl⟩;obtain⟨wA,hwA⟩:∃wA:World,wA=wi.alloc (.cells #[.string (F.blk n).name,.slice A3 (F.blk n).phis.length c3,.slice A4 (F.blk n).insts.length c4,.int .i64 (F.blk n).term.kind,.int .i64 (F.blk n).term.var,.int .i64 (F.blk n).term.t0,.int .i64 (F.blk n).term.t1] 62):=⟨_,rfl⟩;have hbA:Below wi.heap.size wi wA:=by rw[hwA];exact YaP _ _
    have hcA:BoxAt wA wi.heap.size #[.string (F.blk n).name,.slice A3 (F.blk n).phis.length c3,.slice A4 (F.blk n).insts.length c4,.int .i64 (F.blk n).term.kind,.int .i64 (F.blk n).term.var,.int .i64 (F.blk n).term.t0,.int .i64 (F.blk n).term.t1] 62:=by rw[hwA];exact BoxAt.new _ _ _
    have hfA:=hx.below hbA hx.lt;have hBA:=hB.trans (hbA.mono hB.size);unfold Len at l3 l4;have hBz:=hB.size;clear h0 hx hB hbA hWr
    go_upto_region 5 with fail
    go_loud (rw[← hwA])
    clear hwA q2 ql hy0 hy1 hy2 hy3 hy4 hy5 hy6;have p2:=hcA.cell 2;have pl:=hcA.lt;simp at p2;go_wp2_with fail;clear p2 pl
    go_loopw[6] (fun s wr=>∃k:Int,s=.int .i64 k∧-1≤k∧k<(F.blk n).insts.length∧Hid (∀j:Nat,k<j→j<(F.blk n).insts.length→isCp ((F.blk n).inst j)=false)∧BoxAt wr wi.heap.size #[.string (F.blk n).name,.slice A3 (F.blk n).phis.length c3,.slice A4 (F.blk n).insts.length c4,.int .i64 (F.blk n).term.kind,.int .i64 (F.blk n).term.var,.int .i64 (F.blk n).term.t0,.int .i64 (F.blk n).term.t1] 62∧BoxAt wr w.heap.size #[.slice A0 F.vars.length c0,.slice A1 F.params.length c1,.slice (some ⟨bb,off,none⟩) F.blocks.length c2] 26∧Below w.heap.size w wr) (fun s _=>(intOf s+1).toNat)
    case atStart=>exact⟨((F.blk n).insts.length:Int)-1,by first|rfl|go_num,ZO,ZO,fun j h1 h2=>ZO,hcA,hfA,hBA⟩
    case round=>as_aux_lemma=>
     clear hcA hfA hBA;obtain⟨k,rfl,hk0,hk1,HNI,hx,hf,hB⟩:=hrel;have p1:=hx.cell 1;have p2:=hx.cell 2;have pl:=hx.lt;simp at p1 p2;have HX:=Lh hx;have HF:=Lh hf;have HB:=Lh hB;have hWr:Below W.heap.size W wr:=hW.trans (hB.mono hWs);clear hx hf hB
     by_cases h0:0≤k
     · as_aux_lemma=>
       obtain⟨m,rfl⟩:∃m:Nat,k=m:=⟨k.toNat,ZO⟩;have hm:m<(F.blk n).insts.length:=by omega
       have hge2:decide ((m:Int)≥0)=true:=decide_eq_true h0;obtain⟨ib,io,A5,c5,rfl,hib,z0,z1,z2,z3,l5,k5,r5⟩:=r4.inst hWr hm;unfold Len at l5;clear h0
       by_cases hop:((F.blk n).inst m).op=1
       · as_aux_lemma=>
         have hcp:isCp ((F.blk n).inst m)=true:=decide_eq_true hop;obtain⟨hd,hal⟩:=HO.out.cp _ (YG hlt) _ (List.mem_of_getElem? (PBlock.inst_get hm)) hcp;obtain⟨ab,ao,rfl,hab,ha⟩:=r5.int hWr hal;rw[Nat.add_zero]at ha;rw[hop]at z0;have HFD:=Lh (Ym8 hlt hm hcp);have HD:=Lh hd;clear hop hcp hd
         go_upto_region 9 with fail
         go_quiet (fail)
         generalize hwd:wr.drewN nq=wd;have HBD:=Lh (show Below w.heap.size w wd by rw[← hwd];exact YQ HB.out _);clear hwd;go_wp2_with fail;exact bodyPost_ret (v:=.tuple #[.int .i64 ((F.blk n).inst m).dst,.int .i64 (ith ((F.blk n).inst m).args 0)]) (by simp[results,Tryz.results55,go_sem]) rfl ⟨⟨_,_,rfl,.inl ⟨HD.out,HFD.out⟩⟩,HBD.out⟩
       · as_aux_lemma=>
         have d0:(((F.blk n).inst m).op==1)=false:=by rw[beq_eq_false_iff_ne];exact hop
         have HCP:=Lh (show isCp ((F.blk n).inst m)=false from decide_eq_false hop);clear hop;go_wp2_with fail;go_roundw
         case rel=>exact⟨(m:Int)-1,ZN,ZO,ZO,fun j h1 h2=>by
          by_cases e:j=m
          · rw[e]
            exact HCP.out
          · exact HNI.out j ZO h2,HX.out,HF.out,HB.out⟩
         case measure=>first|(simp[intOf];done)|(simp[intOf];omega)
     · as_aux_lemma=>
       obtain rfl:k=-1:=by omega
       have hge2:decide ((-1:Int)≥0)=false:=by decide
       clear h0 p2;go_wp2_with fail;clear p1 pl;obtain⟨wj,rfl⟩:∃wj:World,wj=wr:=⟨_,rfl⟩
       go_loopw[7] (fun s wr=>∃k:Int,s=.int .i64 k∧-1≤k∧k<(F.blk n).phis.length∧Hid (∀j:Nat,k<j→j<(F.blk n).phis.length→∀y,¬YbD (fun v=>v) ((F.blk n).phi j) y)∧BoxAt wr wi.heap.size #[.string (F.blk n).name,.slice A3 (F.blk n).phis.length c3,.slice A4 (F.blk n).insts.length c4,.int .i64 (F.blk n).term.kind,.int .i64 (F.blk n).term.var,.int .i64 (F.blk n).term.t0,.int .i64 (F.blk n).term.t1] 62∧BoxAt wr w.heap.size #[.slice A0 F.vars.length c0,.slice A1 F.params.length c1,.slice (some ⟨bb,off,none⟩) F.blocks.length c2] 26∧Below w.heap.size w wr) (fun s _=>(intOf s+1).toNat)
       case atStart=>exact⟨((F.blk n).phis.length:Int)-1,by first|rfl|go_num,ZO,ZO,fun j h1 h2=>ZO,HX.out,HF.out,HB.out⟩
       case round=>as_aux_lemma=>
        clear HX HF HB hWr;obtain⟨k,rfl,hk0,hk1,HNP,hx,hf,hB⟩:=hrel;have p1:=hx.cell 1;have pl:=hx.lt;simp at p1;have HX:=Lh hx;have HF:=Lh hf;have HB:=Lh hB;have hWr:Below W.heap.size W wr:=hW.trans (hB.mono hWs);clear hx hf hB
        by_cases h0:0≤k
        · as_aux_lemma=>
          obtain⟨m,rfl⟩:∃m:Nat,k=m:=⟨k.toNat,ZO⟩;have hm:m<(F.blk n).phis.length:=by omega
          have hge2:decide ((m:Int)≥0)=true:=decide_eq_true h0;obtain⟨ib,io,A5,c5,A6,c6,rfl,hib,z0,z1,z2,l5,l6,k5,k6,r5,r6⟩:=r3.phi hWr hm;have HID:=Lh (Ym2 (c:=c5) (fr:=.slice A6 ((F.blk n).phi m).froms.length c6) r5 l5 hWr);unfold Len at l5 l6;obtain⟨hd,hag⟩:=HO.out.ph _ (YG hlt) _ (List.mem_of_getElem? (PBlock.phi_get hm));have HYES:=Lh (fun h=>Ym9 hlt hm (Ym0 hag h));have HNOT:=Lh (Ym1 hag);have HD:=Lh hd;clear h0 r5 r6 hag hd;go_wp2_with fail;refine HID.out.mono ?_;rintro e w9 ⟨rfl,hb9⟩;have hx9:=HX.out.below hb9 HX.out.lt;have hf9:=HF.out.below hb9 HF.out.lt;have hB9:=HB.out.trans (hb9.mono HB.out.size);have z09:=(hb9.cell (p:=⟨ib,io+m*3,none⟩) hib).trans z0;have hib9:=Nt hib hb9.size;clear p1 pl HID z1 z2 hWr;have p1:=hx9.cell 1;have pl:=hx9.lt;simp at p1;have HX9:=Lh hx9;have HF9:=Lh hf9;have HB9:=Lh hB9;clear hx9 hf9 hB9 hb9 HX HF HB;generalize idN ((F.blk n).phi m).dst ((F.blk n).phi m).args (-1)=z at *
          by_cases hz:0≤z
          · as_aux_lemma=>
            have d0:decide (z≥0)=true:=decide_eq_true hz;have HFD:=Lh (HYES.out hz);clear hz;go_wp2_with fail;exact bodyPost_ret (v:=.tuple #[.int .i64 ((F.blk n).phi m).dst,.int .i64 z]) (by simp[results,Tryz.results55,go_sem]) rfl ⟨⟨_,_,rfl,.inl ⟨HD.out,HFD.out⟩⟩,HB9.out⟩
          · as_aux_lemma=>
            have d0:decide (z≥0)=false:=decide_eq_false hz;have HNZ:=Lh (HNOT.out ZO);clear hz;go_wp2_with fail;go_roundw
            case rel=>exact⟨(m:Int)-1,ZN,ZO,ZO,fun j h1 h2=>by
             by_cases e:j=m
             · rw[e]
               exact HNZ.out
             · exact HNP.out j ZO h2,HX9.out,HF9.out,HB9.out⟩
            case measure=>first|(simp[intOf];done)|(simp[intOf];omega)
        · as_aux_lemma=>
          obtain rfl:k=-1:=by omega
          have hge2:decide ((-1:Int)≥0)=false:=by decide
          clear h0 p1 pl;go_wp2_with fail;go_roundw
          case rel=>exact⟨(n:Int)-1,ZN,ZO,ZO,Ym6 HNO.out (Ym7 HNI.out HNP.out),HF.out,HB.out⟩
          case measure=>first|(simp[intOf];done)|(simp[intOf];omega)
  · as_aux_lemma=>
    obtain rfl:i=-1:=by omega
    have hge:decide ((-1:Int)≥0)=false:=by decide
    have HB:=Lh hB;clear h0 hx hB;go_wp2_with fail;exact bodyPost_ret (v:=.tuple #[.int .i64 (-1),.int .i64 (-1)]) (by simp[results,Tryz.results55,go_sem]) rfl ⟨⟨_,_,rfl,.inr ⟨rfl,Ym5 HNO.out⟩⟩,HB.out⟩
def N5:List TypeId:=[3,64,67,62,78]
def FnT(w:World)(v:Value)(F:PFunc):Prop:=∃v0 v1 v2,v=.agg #[v0,v1,v2]∧DVars w (NT N5 w) v0 F.vars∧DInts w (NT N5 w) v1 F.params∧DBlks w (NT N5 w) v2 F.blocks
section
variable {w w':World} {v:Value} {F:PFunc}
theorem FnT.fn(h:FnT w v F):FnV w w.heap.size v F:=by
 obtain⟨v0,v1,v2,rfl,h0,h1,h2⟩:=h;exact⟨v0,v1,v2,rfl,h0.rd fun _ h _=>h,h1.rd fun _ h _=>h,h2.rd fun _ h _=>h⟩
theorem FnT.kt(h:FnT w v F)(hk:KT N5 w w'):FnT w' v F:=by
 obtain⟨v0,v1,v2,rfl,h0,h1,h2⟩:=h;have ht:=hk.tr (ts':=N5) fun _ h=>h
 exact⟨v0,v1,v2,rfl,h0.turn ht,h1.turn ht,h2.turn ht⟩
theorem FnT.below(h:FnT w v F)(hb:Below w.heap.size w w'):FnT w' v F:=h.kt (KT.of_below hb)
theorem DRow.imp{α:Type}{D D':Nat→Prop}{sz:Nat}{C C':List Value→α→Prop}{xs:List α}(h:DRow w D sz C v xs)(hD:∀b,b<w.heap.size→D b→D' b)(hC:∀cs x,C cs x→C' cs x):DRow w D' sz C' v xs:=h.turn (Tr.mono hD) hC
theorem FnT.of_rows{base base2:Nat}{vv vp vb:Value}{ps:List (PBlock×Value×Value)}(hV:RRow w base 78 2 YbQ vv F.vars)(hP:w.ownsRow base 3 1 vp F.params.length (F.params.map (Value.int .i64)))
 (hR:RRow w base2 62 7 (CBO w base2) vb ps) (he:ps.map Prod.fst=F.blocks) (hB:Bnd F):FnT w (.agg #[vv,vp,vb]) F:=by
 have hn:ps.length≤1048576:=by have:=hB.blocks;rw[← he,List.length_map]at this;omega
 obtain⟨cv,hov⟩:=hV.own;obtain⟨cb,hob⟩:=hR.own;refine⟨vv,vp,vb,rfl,hV.done (by have:=hB.vars;omega) (YaM hov (by simp[N5])),DInts.of_own hP (by have:=hB.params;omega) (YaM hP (by simp[N5])),?_⟩;obtain⟨A,c,rfl,hl,hc,hr⟩:=hR.done (D:=NT N5 w) hn (YaM hob (by simp[N5]));refine⟨A,c,by rw[← he,List.length_map],by rw[← he,List.length_map];exact hl,by rw[← he,List.length_map];exact hc,fun i x hx=>?_⟩;rw[← he,List.getElem?_map]at hx;obtain⟨p,hx2,rfl⟩:=Option.map_eq_some_iff.1 hx;obtain⟨b,off,cs,ha,hd,hb,hcs,hcells,hce,hz,h1,h2⟩:=hr i p hx2;have hm:p.1∈F.blocks:=by rw[← he];exact List.mem_map_of_mem (List.mem_of_getElem? hx2)
 have hbd:=hB.parts _ hm;obtain⟨c1,ho1⟩:=h1.own;obtain⟨c2,ho2⟩:=h2.own;have hmono:∀b,b<w.heap.size→NT [3] w b→NT N5 w b:=fun b _ h=>h.mono (by simp[N5])
 refine⟨b,off,cs,ha,hd,hb,hcs,hcells,_,_,hce,hz,?_,?_⟩
 · exact(h1.done (D:=NT N5 w) ZO (YaM ho1 (by simp[N5]))).imp (fun _ _ h=>h) fun _ _ h=>CPhi.turn h (Tr.mono hmono)
 · exact(h2.done (D:=NT N5 w) ZO (YaM ho2 (by simp[N5]))).imp (fun _ _ h=>h) fun _ _ h=>CInst.turn h (Tr.mono hmono)
end
section
variable {W w:World} {D:Nat→Prop}
theorem DRow.el{α:Type}{sz b off n c:Nat}{C:List Value→α→Prop}{xs:List α}(h:DRow W D sz C (.slice (some ⟨b,off,none⟩) n c) xs){i:Nat}{x:α}(hi:xs[i]?=some x):∃cs,b<W.heap.size∧cs.length=sz∧(∀j u,cs[j]?=some u→W.cell? ⟨b,off+i*sz+j,none⟩=some u)∧C cs x:=by
 obtain⟨A,c',e,-,-,hr⟩:=h;obtain⟨b',off',cs,ha,-,hb,hcs,hcells,hx⟩:=hr i x hi;simp only[Value.slice.injEq]at e;rw[← e.1]at ha;cases ha;exact⟨cs,hb,hcs,hcells,hx⟩
theorem FnT.blkD{v0 v1 u1 u2:Value}{bb off n c i:Nat}{F:PFunc}(h:FnT W (.agg #[v0,v1,.slice (some ⟨bb,off,none⟩) n c]) F)(hw:Below W.heap.size W w)(hi:i<F.blocks.length)(h1:w.cell? ⟨bb,off+i*7+1,none⟩=some u1)(h2:w.cell? ⟨bb,off+i*7+2,none⟩=some u2) :
 DPhis W (NT N5 W) u1 (F.blk i).phis∧DInsts W (NT N5 W) u2 (F.blk i).insts:=by
 obtain⟨w0,w1,w2,e,-,-,hb⟩:=h;simp only[Value.agg.injEq,Array.mk.injEq,List.cons.injEq,and_true]at e;obtain⟨-,-,rfl⟩:=e;obtain⟨cs,hbl,-,hc,x1,x2,rfl,-,h3,h4⟩:=hb.el (PFunc.blk_get hi);rw[hw.cell (p:=⟨bb,off+i*7+1,none⟩) hbl,hc 1 _ rfl]at h1;rw[hw.cell (p:=⟨bb,off+i*7+2,none⟩) hbl,hc 2 _ rfl]at h2;cases h1;cases h2;exact⟨h3,h4⟩
theorem YnA{bb off n c i:Nat}{u:Value}{b:PBlock}(h:DPhis W D (.slice (some ⟨bb,off,none⟩) n c) b.phis)(hw:Below W.heap.size W w)(hi:i<b.phis.length)(h1:w.cell? ⟨bb,off+i*3+1,none⟩=some u):DInts W D u (b.phi i).args:=by
 obtain⟨cs,hbl,-,hc,x1,x2,rfl,h3,-⟩:=h.el (PBlock.phi_get hi);rw[hw.cell (p:=⟨bb,off+i*3+1,none⟩) hbl,hc 1 _ rfl]at h1;cases h1;exact h3
end
end Go.Proofs.YthhjlbflpjhahaaGreatDoor
