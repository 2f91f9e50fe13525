/- A run's input as plain data; the walks of law08.Small and of the document's Right. -/
import Derived.Test.YthhjlbflpjhahaaGreatDoorRunSZ
import Derived.Test.YthhjlbflpjhahaaGreatDoorRunYZ
namespace Go.Proofs.YthhjlbflpjhahaaGreatDoor
open Go.RowKit
set_option maxRecDepth 100000
structure Ye6 where
 int:Int
 boo:Bool
 arr:Int
instance:Inhabited Ye6:=⟨⟨0,false,0⟩⟩
structure PIn where
 args:List Ye6
 rows:List (List Int)
instance:Inhabited PIn:=⟨⟨[],[]⟩⟩
def PIn.arg(I:PIn)(i:Nat):Ye6:=I.args.getD i default
def PIn.row(I:PIn)(i:Nat):List Int:=I.rows.getD i []
theorem PIn.arg_get{I:PIn}{i:Nat}(h:i<I.args.length):I.args[i]?=some (I.arg i):=by simp[PIn.arg,h]
def Yel(w:World)(b o:Nat)(x:Ye6):Prop:=w.cell? ⟨b,o,none⟩=some (.int .i64 x.int)∧w.cell? ⟨b,o+1,none⟩=some (.bool x.boo)∧w.cell? ⟨b,o+2,none⟩=some (.int .i64 x.arr)
def InV(w:World)(B:Nat)(v:Value)(I:PIn):Prop:=∃v0 v1,v=.agg #[v0,v1]∧Sl B v0 I.args 3 (Yel w)∧Sl B v1 I.rows 1 (RowC w B)
def Yem(I:PIn):Prop:=(∀x∈I.args,I64 x.int)∧∀r∈I.rows,∀x∈r,I64 x
structure RightF (F:PFunc) (I:PIn):Prop where
 len:I.args.length=F.params.length
 arr:∀i,i<I.args.length→(F.var i).ty=2→-1≤(I.arg i).arr∧(I.arg i).arr<(I.rows.length:Int)
 lr:I.rows.length≤32
 ll:∀i,i<I.rows.length→(I.row i).length≤64
section
variable {W w:World} {iv fv:Value} {I:PIn} {F:PFunc}
theorem InV.open_(h:InV W W.heap.size iv I):∃A0 c0 A1 c1,iv=.agg #[.slice A0 I.args.length c0,.slice A1 I.rows.length c1]∧Len I.args.length∧Len I.rows.length∧I.args.length≤c0∧I.rows.length≤c1∧Rd W.heap.size A0 I.args 3 (Yel W)∧Rd W.heap.size A1 I.rows 1 (RowC W W.heap.size):=by
 obtain⟨v0,v1,rfl,⟨A0,c0,rfl,l0,k0,r0⟩,A1,c1,rfl,l1,k1,r1⟩:=h;exact⟨A0,c0,A1,c1,rfl,l0,l1,k0,k1,r0,r1⟩
theorem Rd.arg{A:Option Addr}(h:Rd W.heap.size A I.args 3 (Yel W))(hw:Below W.heap.size W w){i:Nat}(hi:i<I.args.length) :
 ∃b off,A=some ⟨b,off,none⟩∧b<w.heap.size∧w.cell? ⟨b,off+i*3,none⟩=some (.int .i64 (I.arg i).int)∧w.cell? ⟨b,off+i*3+1,none⟩=some (.bool (I.arg i).boo)∧w.cell? ⟨b,off+i*3+2,none⟩=some (.int .i64 (I.arg i).arr):=by
 obtain⟨b,off,ha,hb,h0,h1,h2⟩:=h i _ (PIn.arg_get hi);exact⟨b,off,ha,Nt hb hw.size,(hw.cell (p:=⟨b,off+i*3,none⟩) hb).trans h0,(hw.cell (p:=⟨b,off+i*3+1,none⟩) hb).trans h1,(hw.cell (p:=⟨b,off+i*3+2,none⟩) hb).trans h2⟩
theorem Yen{w w':World}{b0 b1:Array Value}{t0 t1:TypeId}(hb:Below (w.heap.size+2) ((w.alloc (.cells b0 t0)).alloc (.cells b1 t1)) w') :
 w.heap.size+1<w'.heap.size∧(∀j,w'.cell? ⟨w.heap.size,j,none⟩=b0[j]?)∧∀j,w'.cell? ⟨w.heap.size+1,j,none⟩=b1[j]?:=by
 have h0:=((BoxAt.new w b0 t0).alloc (.cells b1 t1)).below hb ZO;have h1:=(BoxAt.new (w.alloc (.cells b0 t0)) b1 t1).below hb ZS;simp only[World.size_alloc]at h1;exact⟨h1.lt,h0.cell,h1.cell⟩
def RetB(e:Ending):Prop:=∃b,e=.returned (.bool b)
theorem RetB.mk(b:Bool){e:Ending}(h:e=.returned (.bool b)):RetB e:=⟨b,h⟩
def RetR(F:PFunc)(I:PIn)(e:Ending):Prop:=∃r:Int,e=.returned (.int .i64 r)∧(r=0→RightF F I)
theorem RetR.no{F:PFunc}{I:PIn}(r:Int){e:Ending}(h:e=.returned (.int .i64 r))(h0:r≠0):RetR F I e:=⟨r,h,fun e=>absurd e h0⟩
set_option maxHeartbeats 2000000 in
theorem YiZ(hI:InV W W.heap.size iv I)(hW:Below W.heap.size W w) :
 Calls Tryz.prog 22 #[iv] w fun e w'=>RetB e∧Below w.heap.size w w':=by
 obtain⟨A0,c0,A1,c1,rfl,l0,l1,k0,k1,r0,r1⟩:=hI.open_;unfold Len at *;clear r0 hI;have hb0:=(Br w.heap.size w).alloc (Nr _) (.cells #[.slice A0 I.args.length c0,.slice A1 I.rows.length c1] 38)
 by_cases h0:(20:Int)<(I.args.length:Int)
 · go_enter Tryz.func22,Tryz.ntmps22
   go_wp2;go_ret;exact⟨.mk _ (Ya rfl),BL⟩
 have h0':decide ((20:Int)<(I.args.length:Int))=false:=decide_eq_false h0
 by_cases h1:(40:Int)<(I.rows.length:Int)
 · go_enter Tryz.func22,Tryz.ntmps22
   go_wp2;go_ret;exact⟨.mk _ (Ya rfl),BL⟩
 have h1':decide ((40:Int)<(I.rows.length:Int))=false:=decide_eq_false h1;clear h0 h1;go_enter Tryz.func22,Tryz.ntmps22;go_wp2
 go_loopw[18] (fun x wr=>∃i:Nat,x=.int .i64 i∧i≤I.rows.length∧Below w.heap.size w wr) (fun x _=>I.rows.length-(intOf x).toNat)
 case atStart=>exact⟨0,rfl,Nz _,BL⟩
 case round=>as_aux_lemma=>
  obtain⟨i,rfl,hi,hb⟩:=hrel;clear hb0
  by_cases hlt:i<I.rows.length
  · have hln:(i:Int)<(I.rows.length:Int):=by omega
    obtain⟨b,off,Ar,cr,rfl,hbl,hcell,lr,kr,rr⟩:=YeN r1 (hW.trans (hb.mono hW.size)) hlt;unfold Len at *;clear rr r1;generalize (I.rows.getD i []).length=m at *
    by_cases h2:(100:Int)<(m:Int)
    · go_wp2
      go_ret;exact⟨.mk _ (Ya rfl),BL⟩
    · have h2':decide ((100:Int)<(m:Int))=false:=decide_eq_false h2
      go_wp2;go_roundw
      case rel=>exact⟨i+1,ZN,ZO,BL⟩
      case measure=>simp[intOf];omega
  · obtain rfl:i=I.rows.length:=by omega
    go_wp2;go_ret;exact⟨.mk _ (Ya rfl),BL⟩
set_option maxHeartbeats 4000000 in
theorem Yi0(hF:FnV W W.heap.size fv F)(hI:InV W W.heap.size iv I)(hW:Below W.heap.size W w)(hp:F.params.length≤F.vars.length) :
 Calls Tryz.prog 23 #[fv,iv] w fun e w'=>RetR F I e∧Below w.heap.size w w':=by
 obtain⟨A0,c0,A1,c1,A2,c2,rfl,l0,l1,l2,-,-,-,r0,r1,-⟩:=id hF.open_;obtain⟨B0,d0,B1,d1,rfl,m0,m1,k0,k1,q0,q1⟩:=hI.open_;unfold Len at *;clear r1;have hx0:Below w.heap.size w ((w.alloc (.cells #[.slice A0 F.vars.length c0,.slice A1 F.params.length c1,.slice A2 F.blocks.length c2] 26)).alloc (.cells #[.slice B0 I.args.length d0,.slice B1 I.rows.length d1] 38)):=BL
 by_cases h0:I.args.length=F.params.length
 · have h0':((I.args.length:Int) !=(F.params.length:Int))=false:=by rw[h0];simp
   have hle:I.args.length≤F.vars.length:=by omega
   have HH0:=Lh h0;clear h0 hI hF;go_enter Tryz.func23,Tryz.ntmps23;go_wp2
   go_loopw[19] (fun x wr=>∃i:Nat,x=.int .i64 i∧i≤I.args.length∧Below (w.heap.size+2) ((w.alloc (.cells #[.slice A0 F.vars.length c0,.slice A1 F.params.length c1,.slice A2 F.blocks.length c2] 26)).alloc (.cells #[.slice B0 I.args.length d0,.slice B1 I.rows.length d1] 38)) wr∧
    Hid (∀j,j<i→(F.var j).ty=2→-1≤(I.arg j).arr∧(I.arg j).arr<(I.rows.length:Int))) (fun x _=>I.args.length-(intOf x).toNat)
   case atStart=>exact⟨0,rfl,Nz _,by simpa using Br _ _,fun j hj=>absurd hj (Nat.not_lt_zero _)⟩
   case round=>as_aux_lemma=>
    obtain⟨i,rfl,hi,hb,hA⟩:=hrel;obtain⟨bl,bx,by_⟩:=Yen hb;have x0:wr.cell? ⟨w.heap.size,0,none⟩=some (.slice A0 F.vars.length c0):=bx 0;have y0:wr.cell? ⟨w.heap.size+1,0,none⟩=some (.slice B0 I.args.length d0):=by_ 0;have y1:wr.cell? ⟨w.heap.size+1,1,none⟩=some (.slice B1 I.rows.length d1):=by_ 1;have bl0:=Ns bl;have hbw:Below w.heap.size w wr:=hx0.trans (hb.mono ZO);have hWr:=hW.trans (hbw.mono hW.size);have HB:=Lh hb;have HBW:=Lh hbw;clear bx by_ hb hx0 hbw
    by_cases hlt:i<I.args.length
    · as_aux_lemma=>
      have hln:(i:Int)<(I.args.length:Int):=by omega
      have hlv:(i:Int)<(F.vars.length:Int):=by omega
      obtain⟨b,off,rfl,hbl,z0,z1,z2⟩:=q0.arg hWr hlt;obtain⟨b',off',rfl,hbl',-,-,u1⟩:=r0.var hWr (i:=i) ZO;clear q0 r0;have HN:Hid ((F.var i).ty=2→-1≤(I.arg i).arr∧(I.arg i).arr<(I.rows.length:Int))→Hid (∀j,j<i+1→(F.var j).ty=2→-1≤(I.arg j).arr∧(I.arg j).arr<(I.rows.length:Int)):=fun h=>show ∀j,j<i+1→(F.var j).ty=2→-1≤(I.arg j).arr∧(I.arg j).arr<(I.rows.length:Int)from fun j hj=>by
       by_cases e:j=i
       · subst e;exact h.out
       · exact hA.out j ZO
      have HNN:=Lh HN;clear HN;generalize (F.var i).ty=ty at *;generalize (I.arg i).arr=ar at *
      by_cases e2:ty=2
      · subst e2
        by_cases e3:ar < -1
        · as_aux_lemma=>
          go_wp2;go_ret;exact⟨.no _ rfl ZD,HBW.out.alloc HBW.out.size _⟩
        · have e3':decide (ar < -1)=false:=decide_eq_false e3
          by_cases e4:(I.rows.length:Int)≤ar
          · as_aux_lemma=>
            go_wp2;go_ret;exact⟨.no _ rfl ZD,HBW.out.alloc HBW.out.size _⟩
          · as_aux_lemma=>
            have e4':decide ((I.rows.length:Int)≤ar)=false:=decide_eq_false e4;have HZ:=Lh (HNN.out (show Hid _ from fun _=>⟨ZO,ZO⟩));go_wp2;go_roundw
            case rel=>exact⟨i+1,ZN,ZO,HB.out.alloc (by have:=HB.out.size;simpa using this) _,HZ.out⟩
            case measure=>simp[intOf];omega
      · as_aux_lemma=>
        have e2':(ty==2)=false:=by rw[beq_eq_false_iff_ne];exact e2
        have HZ:=Lh (HNN.out (show Hid _ from fun h=>absurd h e2));go_wp2;go_roundw
        case rel=>exact⟨i+1,ZN,ZO,HB.out.alloc (by have:=HB.out.size;simpa using this) _,HZ.out⟩
        case measure=>simp[intOf];omega
    · as_aux_lemma=>
      obtain rfl:i=I.args.length:=by omega
      clear q0 r0
      by_cases h2:(32:Int)<(I.rows.length:Int)
      · as_aux_lemma=>
        go_wp2;go_ret;exact⟨.no _ rfl ZD,HBW.out⟩
      have h2':decide ((32:Int)<(I.rows.length:Int))=false:=decide_eq_false h2;go_wp2;obtain⟨wq,rfl⟩:∃wq:World,wq=wr:=⟨_,rfl⟩
      go_loopw[52] (fun x wr=>∃i:Nat,x=.int .i64 i∧i≤I.rows.length∧Below wq.heap.size wq wr∧Hid (∀j,j<i→(I.row j).length≤64)) (fun x _=>I.rows.length-(intOf x).toNat)
      case atStart=>exact⟨0,rfl,Nz _,Br _ _,fun j hj=>absurd hj (Nat.not_lt_zero _)⟩
      case round=>as_aux_lemma=>
       obtain⟨i,rfl,hi,hb,hR⟩:=hrel;clear x0 y0 y1 bl bl0
       by_cases hlt:i<I.rows.length
       · have hln:(i:Int)<(I.rows.length:Int):=by omega
         obtain⟨b,off,Ar,cr,rfl,hbl,hcell,lr,kr,rr⟩:=YeN q1 (hWr.trans (hb.mono hWr.size)) hlt;unfold Len at *;have HB1:=Lh hb
         have HN:=Lh (fun(h:(I.rows.getD i []).length≤64)=>(show ∀j,j<i+1→(I.row j).length≤64 from fun j hj=>by
          by_cases e:j=i
          · subst e;exact h
          · exact hR.out j ZO))
         clear hb rr q1;generalize (I.rows.getD i []).length=m at *
         by_cases h3:(64:Int)<(m:Int)
         · as_aux_lemma=>
           go_wp2;go_ret;exact⟨.no _ rfl ZD,HBW.out.trans (HB1.out.mono HBW.out.size)⟩
         · as_aux_lemma=>
           have h3':decide ((64:Int)<(m:Int))=false:=decide_eq_false h3;go_wp2;go_roundw
           case rel=>exact⟨i+1,ZN,ZO,HB1.out,HN.out ZO⟩
           case measure=>simp[intOf];omega
       · as_aux_lemma=>
         obtain rfl:i=I.rows.length:=by omega
         have HB1:=Lh hb;clear hb;have HRT:=Lh (show RightF F I from⟨HH0.out,hA.out,ZO,hR.out⟩);go_wp2;go_ret;exact⟨⟨0,rfl,fun _=>HRT.out⟩,HBW.out.trans (HB1.out.mono HBW.out.size)⟩
 · have h0':((I.args.length:Int) !=(F.params.length:Int))=true:=by rw[bne_iff_ne];omega
   go_enter Tryz.func23,Tryz.ntmps23;go_wp2;go_ret;exact⟨.no _ rfl ZD,BL⟩
end
theorem map_set{α:Type}{n i:Nat}{f g:Nat→α}{v:α}(hi:g i=v)(hne:∀j,j≠i→g j=f j):((List.range n).map f).set i v=(List.range n).map g:=by
 apply List.ext_getElem?;intro j;rw[List.getElem?_set]
 by_cases e:i=j
 · subst e
   by_cases hj:i<n
   · simp[hj,hi]
   · simp[hj]
 · simp only[if_neg e,List.getElem?_map]
   by_cases hj:j<n
   · simp[hj,hne j (fun h=>e h.symm)]
   · simp[hj]
def s00(n:Nat):RSt:=⟨List.replicate n 0,List.replicate n false,List.replicate n 0,[],0,0,0,0,0,[],0,List.replicate 8 0,false⟩
def Ycq(n i:Nat):RSt:=⟨List.replicate n 0,List.replicate n false,(List.range n).map fun j=>if j<i then -1 else 0,[],0,0,3,0,0,[],0,List.replicate 8 0,false⟩
def Yao(F:PFunc)(I:PIn)(k:Nat):RSt:=
 ⟨(List.range F.vars.length).map fun i=>if i<k∧(F.var i).ty=0 then(I.arg i).int else 0,(List.range F.vars.length).map fun i=>if i<k∧(F.var i).ty=1 then(I.arg i).boo else false,
   (List.range F.vars.length).map fun i=>if i<k∧(F.var i).ty≠0∧(F.var i).ty≠1 then(I.arg i).arr else -1,[],0,0,3,0,0,[],0,List.replicate 8 0,false⟩
def YR(F:PFunc)(I:PIn):RSt:={ Yao F I I.args.length with rows:=I.rows }
theorem Yeo{α:Type}{n:Nat}{f:Nat→α}{v:α}(h:∀j,f j=v):(List.range n).map f=List.replicate n v:=by
 rw[show f=fun _=>v from funext h];exact List.map_const' .. |>.trans (by rw[List.length_range])
theorem Yn7{n:Nat}:Ycq n 0={ s00 n with ending:=3 }:=by
 unfold Ycq s00;rw[Yeo (v:=0) fun j=>if_neg (Nat.not_lt_zero _)]
theorem Yn8{n i:Nat}:(Ycq n i).setA (i:Int) (-1)=Ycq n (i+1):=by
 unfold Ycq RSt.setA;dsimp only
 rw[Int.toNat_natCast,map_set (g:=fun j=>if j<i+1 then -1 else 0) (if_pos (Nat.lt_succ_self _)) (fun j hj=>by
  by_cases e:j<i
  · rw[if_pos e,if_pos ZO]
  · rw[if_neg e,if_neg ZO])]
section
variable {F:PFunc} {I:PIn} {k:Nat}
theorem Yn9:Yao F I 0=Ycq F.vars.length F.vars.length:=by
 unfold Yao Ycq;rw[Yeo (v:=0) fun j=>if_neg (fun h=>Nat.not_lt_zero _ h.1),Yeo (v:=false) fun j=>if_neg (fun h=>Nat.not_lt_zero _ h.1),Yeo (v:=-1) fun j=>if_neg (fun h=>Nat.not_lt_zero _ h.1)];congr 1;rw[show((List.range F.vars.length).map fun j=>if j<F.vars.length then(-1:Int) else 0)=(List.range F.vars.length).map fun _=>-1 from List.map_congr_left fun j hj=>if_pos (by simpa using hj)];exact(Yeo fun _=>rfl).symm
theorem Ycr{α:Type}{p q:Prop}[Decidable p][Decidable q](h:p↔q)(a b:α):(if p then a else b)=if q then a else b:=by
 by_cases hq:q
 · rw[if_pos (h.2 hq),if_pos hq]
 · rw[if_neg (fun hp=>hq (h.1 hp)),if_neg hq]
theorem Yoa(h:(F.var k).ty=0):(Yao F I k).setI (k:Int) (I.arg k).int=Yao F I (k+1):=by
 unfold Yao RSt.setI;dsimp only;rw[Int.toNat_natCast,map_set (g:=fun i=>if i<k+1∧(F.var i).ty=0 then(I.arg i).int else 0) (if_pos ⟨Nat.lt_succ_self _,h⟩) (fun j hj=>Ycr ⟨fun e=>⟨ZO,e.2⟩,fun e=>⟨ZO,e.2⟩⟩ _ _)];congr 1
 · refine List.map_congr_left fun i _=>Ycr ⟨fun e=>⟨ZO,e.2⟩,fun e=>⟨?_,e.2⟩⟩ _ _
   by_cases e2:i=k
   · subst e2;omega
   · exact ZO
 · refine List.map_congr_left fun i _=>Ycr ⟨fun e=>⟨ZO,e.2⟩,fun e=>⟨?_,e.2⟩⟩ _ _
   by_cases e2:i=k
   · subst e2;exact absurd h e.2.1
   · exact ZO
theorem Yob(h:(F.var k).ty=1):(Yao F I k).setB (k:Int) (I.arg k).boo=Yao F I (k+1):=by
 unfold Yao RSt.setB;dsimp only;rw[Int.toNat_natCast,map_set (g:=fun i=>if i<k+1∧(F.var i).ty=1 then(I.arg i).boo else false) (if_pos ⟨Nat.lt_succ_self _,h⟩) (fun j hj=>Ycr ⟨fun e=>⟨ZO,e.2⟩,fun e=>⟨ZO,e.2⟩⟩ _ _)];congr 1
 · refine List.map_congr_left fun i _=>Ycr ⟨fun e=>⟨ZO,e.2⟩,fun e=>⟨?_,e.2⟩⟩ _ _
   by_cases e2:i=k
   · subst e2;omega
   · exact ZO
 · refine List.map_congr_left fun i _=>Ycr ⟨fun e=>⟨ZO,e.2⟩,fun e=>⟨?_,e.2⟩⟩ _ _
   by_cases e2:i=k
   · subst e2;exact absurd h e.2.2
   · exact ZO
theorem Yoc(h0:(F.var k).ty≠0)(h1:(F.var k).ty≠1):(Yao F I k).setA (k:Int) (I.arg k).arr=Yao F I (k+1):=by
 unfold Yao RSt.setA;dsimp only;rw[Int.toNat_natCast,map_set (g:=fun i=>if i<k+1∧(F.var i).ty≠0∧(F.var i).ty≠1 then(I.arg i).arr else -1) (if_pos ⟨Nat.lt_succ_self _,h0,h1⟩) (fun j hj=>Ycr ⟨fun e=>⟨ZO,e.2⟩,fun e=>⟨ZO,e.2⟩⟩ _ _)];congr 1
 · refine List.map_congr_left fun i _=>Ycr ⟨fun e=>⟨ZO,e.2⟩,fun e=>⟨?_,e.2⟩⟩ _ _
   by_cases e2:i=k
   · subst e2;exact absurd e.2 h0
   · exact ZO
 · refine List.map_congr_left fun i _=>Ycr ⟨fun e=>⟨ZO,e.2⟩,fun e=>⟨?_,e.2⟩⟩ _ _
   by_cases e2:i=k
   · subst e2;exact absurd e.2 h1
   · exact ZO
theorem Yi1{α:Type}{n:Nat}{f:Nat→α}{p:α→Prop}(h:∀i,i<n→p (f i)):∀x∈(List.range n).map f,p x:=fun x hx=>by
 obtain⟨i,hi,rfl⟩:=List.mem_map.1 hx;exact h i (by simpa using hi)
theorem Yod(h:Yab F=true){i:Nat}(hi:i<F.vars.length):(F.var i).ty=0∨(F.var i).ty=1∨(F.var i).ty=2:=by
 have h1:F.vars.all (fun v=>YaP v.ty)=true:=by
  unfold Yab at h;simp only[Bool.and_eq_true]at h;exact h.1.1.1.1.1.1.1.1
 have h2:=List.all_eq_true.1 h1 _ (List.mem_of_getElem? (PFunc.var_get hi));unfold YaP at h2;simpa[or_assoc]using h2
theorem Yi2(h:Yab F=true):F.params.length≤F.vars.length:=by
 unfold Yab at h;simp only[Bool.and_eq_true,decide_eq_true_eq]at h;exact h.1.1.1.1.2
theorem Ye7(hT:Yd F=true)(hR:RightF F I)(hN:Yem I):RInv F (YR F I):=by
 obtain⟨n1,-⟩:=Yax (Yz hT);refine⟨by simp[YR,Yao],by simp[YR,Yao],by simp[YR,Yao],n1,Nz _,Yi1 fun i hi=>?_,Yi1 fun i hi=>?_,hN.2,fun r hr=>?_,hR.lr,by simp[YR,Yao],by simp[YR,Yao]⟩
 · show(if i<I.args.length∧(F.var i).ty≠0∧(F.var i).ty≠1 then(I.arg i).arr else -1)<(I.rows.length:Int)
   split
   · rename_i e
     have h2:(F.var i).ty=2:=by
      have h1:=Yz hT;unfold Yk at h1;simp only[Bool.and_eq_true]at h1;have h3:=Yod h1.1.1 hi;omega
     exact(hR.arr i e.1 h2).2
   · exact ZO
 · show I64 (if i<I.args.length∧(F.var i).ty=0 then(I.arg i).int else 0)
   split
   · rename_i e
     exact hN.1 _ (List.mem_of_getElem? (PIn.arg_get e.1))
   · exact Yee
 · obtain⟨i,hi,rfl⟩:=List.getElem_of_mem hr
   have:=hR.ll i hi;rw[PIn.row,List.getD_eq_getElem?_getD,show I.rows[i]?=some ((YR F I).rows[i])from List.getElem?_eq_getElem hi]at this;exact this
end
theorem RunO.monoD{w:World}{D D':Nat→Prop}{x0 x1 x2 vr vt:Value}{nb gi gb ga n:Nat}{vrs:List Value}{s:RSt}(h:RunO w D x0 x1 x2 nb gi gb ga n vr vt vrs s)(hD:∀k,D' k→D k):RunO w D' x0 x1 x2 nb gi gb ga n vr vt vrs s:=
 ⟨h.box,fun e=>h.bs (hD _ e),fun e=>h.di (hD _ e),fun e=>h.db (hD _ e),fun e=>h.da (hD _ e),fun k hk e=>h.dr k hk (hD _ e),fun k hk e=>h.dt k hk (hD _ e),fun i v k hv hk e=>h.dv i v k hv hk (hD _ e),h.ints,h.bools,h.arrs,h.arr,h.rows,h.apart,h.apartI,h.tr,h.trI,h.trR⟩
def BegOwn(w:World)(B n gi gb ga:Nat):Prop:=w.ownsRow B 2 1 (.slice (some ⟨gi,0,none⟩) n n) n (List.replicate n (.int .i64 0))∧w.ownsRow B 4 1 (.slice (some ⟨gb,0,none⟩) n n) n (List.replicate n (.bool false))∧w.ownsRow B 3 1 (.slice (some ⟨ga,0,none⟩) n n) n (List.replicate n (.int .i64 0))
theorem BegOwn.below{w w':World}{B n gi gb ga:Nat}(h:BegOwn w B n gi gb ga)(hb:Below w.heap.size w w'):BegOwn w' B n gi gb ga:=⟨Yl h.1 hb,Yl h.2.1 hb,Yl h.2.2 hb⟩
theorem BegOwn.run{w:World}{B n nb gi gb ga:Nat}{x0 x1 x2:Value}(h:BegOwn w B n gi gb ga)(hn:B≤nb)(hb:BoxAt w nb (YbH x0 x1 x2 gi gb ga n (.slice none 0 0) (.slice none 0 0) (s00 n)) 74) :
 RunO w (fun k=>k<B) x0 x1 x2 nb gi gb ga n (.slice none 0 0) (.slice none 0 0) [] (s00 n):=by
 obtain⟨h1,h2,h3⟩:=h;refine⟨hb,ZO,?_,?_,?_,fun k e=>by simp[Value.ownBlock]at e,fun k e=>by simp[Value.ownBlock]at e,fun i v k hv _=>by simp at hv,?_,?_,?_,World.ownsRow_nil _ _ _ _,fun i v hv=>by simp at hv,fun i j vi vj b _ hv=>by simp at hv,fun i v hv=>by simp at hv,World.ownsRow_nil _ _ _ _,by simp[Value.ownBlock],fun i v b hv=>by simp at hv⟩
 · have:=(h1.lt gi rfl).1;omega
 · have:=(h2.lt gb rfl).1;omega
 · have:=(h3.lt ga rfl).1;omega
 · simpa[s00]using Ybv h1 (Nz _)
 · simpa[s00]using Ybv h2 (Nz _)
 · simpa[s00]using Ybv h3 (Nz _)
set_option maxHeartbeats 8000000 in
theorem Yi3{W w:World}{F:PFunc}{I:PIn}{A0 A1 A2:Option Addr}{c0 c1 c2:Nat}{iv:Value}(hF:FnV W W.heap.size (.agg #[.slice A0 F.vars.length c0,.slice A1 F.params.length c1,.slice A2 F.blocks.length c2]) F)
 (hI:InV W W.heap.size iv I) (hW:Below W.heap.size W w) (hR:RightF F I) (hp:F.params.length≤F.vars.length) (hvl:F.vars.length≤512) :
 Calls Tryz.prog 33 #[.agg #[.slice A0 F.vars.length c0,.slice A1 F.params.length c1,.slice A2 F.blocks.length c2],iv] w fun e w'=>∃nb gi gb ga vr vrs,e=.returned (.pointer (some ⟨nb,0,none⟩))∧
  RunO w' (fun k=>k<w.heap.size) (.slice A0 F.vars.length c0) (.slice A1 F.params.length c1) (.slice A2 F.blocks.length c2) nb gi gb ga F.vars.length vr (.slice none 0 0) vrs (YR F I)∧Below w.heap.size w w':=by
 obtain⟨A0',c0',A1',c1',A2',c2',hfe,l0,l1,l2,-,-,-,r0,r1,r2⟩:=id hF.open_;simp only[Value.agg.injEq,Array.mk.injEq,List.cons.injEq,Value.slice.injEq,true_and,and_true]at hfe;obtain⟨⟨rfl,rfl⟩,⟨rfl,rfl⟩,rfl,rfl⟩:=hfe;obtain⟨B0,d0,B1,d1,rfl,m0,m1,k0,k1,q0,q1⟩:=hI.open_;unfold Len at *;have hx0:Below w.heap.size w ((w.alloc (.cells #[.slice A0 F.vars.length c0,.slice A1 F.params.length c1,.slice A2 F.blocks.length c2] 26)).alloc (.cells #[.slice B0 I.args.length d0,.slice B1 I.rows.length d1] 38)):=BL;have hle:I.args.length≤F.vars.length:=by have:=hR.len;omega
 have hlr:=hR.lr;have HR:=Lh hR;have HX0:=Lh hx0;have HR0:=Lh r0;have HQ0:=Lh q0;have HQ1:=Lh q1;have HW:=Lh hW;clear hF hI hR hx0 r0 r1 r2 q0 q1 hW;go_enter Tryz.func33,Tryz.ntmps33
 go_upto_region 2 with fail
 go_cut[6] (fun s6 wx=>∃nb gi gb ga,s6=.pointer (some ⟨nb,0,none⟩)∧RunO wx (fun k=>k<w.heap.size+2) (.slice A0 F.vars.length c0) (.slice A1 F.params.length c1) (.slice A2 F.blocks.length c2) nb gi gb ga F.vars.length (.slice none 0 0) (.slice none 0 0) [] (s00 F.vars.length)∧Below (w.heap.size+2) ((w.alloc (.cells #[.slice A0 F.vars.length c0,.slice A1 F.params.length c1,.slice A2 F.blocks.length c2] 26)).alloc (.cells #[.slice B0 I.args.length d0,.slice B1 I.rows.length d1] 38)) wx)
 case first=>as_aux_lemma=>
  obtain⟨-,bx,-⟩:=Yen (Br (w.heap.size+2) ((w.alloc (.cells #[.slice A0 F.vars.length c0,.slice A1 F.params.length c1,.slice A2 F.blocks.length c2] 26)).alloc (.cells #[.slice B0 I.args.length d0,.slice B1 I.rows.length d1] 38)));have f0:=bx 0;have f1:=bx 1;have f2:=bx 2;clear bx;obtain⟨ib2,hib2,hz02,hz12,hz22⟩:=info_parts Tryz.infoI64;obtain⟨ib4,hib4,hz04,hz14,hz24⟩:=info_parts Tryz.info4;obtain⟨ib6,hib6,hz06,hz16,hz26⟩:=info_parts Tryz.info3;refine YiT [15,16,17,18,19,20,21,22,23,6] (fun i w' v'=>(([fun _ v'=>v'=.agg #[.slice A0 F.vars.length c0,.slice A1 F.params.length c1,.slice A2 F.blocks.length c2],fun _ v'=>v'=.int .i64 (F.vars.length:Int),fun w' v'=>∃g,v'=.slice (some ⟨g,0,none⟩) F.vars.length F.vars.length∧w'.ownsRow (w.heap.size+2) 2 1 (.slice (some ⟨g,0,none⟩) F.vars.length F.vars.length) F.vars.length (List.replicate F.vars.length (Value.int .i64 0)),fun _ v'=>v'=.int .i64 (F.vars.length:Int),fun w' v'=>∃g,v'=.slice (some ⟨g,0,none⟩) F.vars.length F.vars.length∧w'.ownsRow (w.heap.size+2) 4 1 (.slice (some ⟨g,0,none⟩) F.vars.length F.vars.length) F.vars.length (List.replicate F.vars.length (Value.bool false)),fun _ v'=>v'=.int .i64 (F.vars.length:Int),fun w' v'=>∃g,v'=.slice (some ⟨g,0,none⟩) F.vars.length F.vars.length∧w'.ownsRow (w.heap.size+2) 3 1 (.slice (some ⟨g,0,none⟩) F.vars.length F.vars.length) F.vars.length (List.replicate F.vars.length (Value.int .i64 0)),fun w' v'=>∃gi gb ga,v'=.agg #[.slice A0 F.vars.length c0,.slice A1 F.params.length c1,.slice A2 F.blocks.length c2,.slice (some ⟨gi,0,none⟩) F.vars.length F.vars.length,.slice (some ⟨gb,0,none⟩) F.vars.length F.vars.length,.slice (some ⟨ga,0,none⟩) F.vars.length F.vars.length,.slice none 0 0,.int .i64 0,.int .i64 0,.int .i64 0,.int .i64 0,.int .i64 0,.slice none 0 0,.int .i64 0,.int .i64 0,.int .i64 0,.int .i64 0,.int .i64 0,.int .i64 0,.int .i64 0,.int .i64 0,.int .i64 0,.bool false]∧BegOwn w' (w.heap.size+2) F.vars.length gi gb ga,fun w' v'=>∃nb gi gb ga,v'=.pointer (some ⟨nb,0,none⟩)∧w.heap.size+2≤nb∧BoxAt w' nb #[.slice A0 F.vars.length c0,.slice A1 F.params.length c1,.slice A2 F.blocks.length c2,.slice (some ⟨gi,0,none⟩) F.vars.length F.vars.length,.slice (some ⟨gb,0,none⟩) F.vars.length F.vars.length,.slice (some ⟨ga,0,none⟩) F.vars.length F.vars.length,.slice none 0 0,.int .i64 0,.int .i64 0,.int .i64 0,.int .i64 0,.int .i64 0,.slice none 0 0,.int .i64 0,.int .i64 0,.int .i64 0,.int .i64 0,.int .i64 0,.int .i64 0,.int .i64 0,.int .i64 0,.int .i64 0,.bool false] 74∧BegOwn w' (w.heap.size+2) F.vars.length gi gb ga,fun w' v'=>∃nb gi gb ga,v'=.pointer (some ⟨nb,0,none⟩)∧w.heap.size+2≤nb∧BoxAt w' nb #[.slice A0 F.vars.length c0,.slice A1 F.params.length c1,.slice A2 F.blocks.length c2,.slice (some ⟨gi,0,none⟩) F.vars.length F.vars.length,.slice (some ⟨gb,0,none⟩) F.vars.length F.vars.length,.slice (some ⟨ga,0,none⟩) F.vars.length F.vars.length,.slice none 0 0,.int .i64 0,.int .i64 0,.int .i64 0,.int .i64 0,.int .i64 0,.slice none 0 0,.int .i64 0,.int .i64 0,.int .i64 0,.int .i64 0,.int .i64 0,.int .i64 0,.int .i64 0,.int .i64 0,.int .i64 0,.bool false] 74∧BegOwn w' (w.heap.size+2) F.vars.length gi gb ga]:List (World→Value→Prop)).getD i (fun _ _=>True)) w' v') ZK ZK ZK ZD ?mono ?step ?fin
  case mono=>
   intro i w1 w2 v hi hb h
   match i,hi,h with
   |0,_,h=>exact h
   |1,_,h=>exact h
   |2,_,h=>exact by obtain⟨g,e,o⟩:=h;exact⟨g,e,Yl o hb⟩
   |3,_,h=>exact h
   |4,_,h=>exact by obtain⟨g,e,o⟩:=h;exact⟨g,e,Yl o hb⟩
   |5,_,h=>exact h
   |6,_,h=>exact by obtain⟨g,e,o⟩:=h;exact⟨g,e,Yl o hb⟩
   |7,_,h=>exact by obtain⟨gi,gb,ga,e,o⟩:=h;exact⟨gi,gb,ga,e,o.below hb⟩
   |8,_,h=>exact by obtain⟨nb,gi,gb,ga,e,hl,hx,o⟩:=h;exact⟨nb,gi,gb,ga,e,hl,hx.below hb hx.lt,o.below hb⟩
   |9,_,h=>exact by obtain⟨nb,gi,gb,ga,e,hl,hx,o⟩:=h;exact⟨nb,gi,gb,ga,e,hl,hx.below hb hx.lt,o.below hb⟩
   |k+10,hi,_=>exact absurd hi (Nat.not_lt_of_le (Nat.le_add_left _ _))
  case step=>
   intro i o vs w1 ho hl hb hp K hK;have hl0:vs.length=10:=hl;clear hl;obtain⟨v0,r0,rfl,hl1⟩:=Ye (n:=9) hl0;obtain⟨v1,r1,rfl,hl2⟩:=Ye (n:=8) hl1;obtain⟨v2,r2,rfl,hl3⟩:=Ye (n:=7) hl2;obtain⟨v3,r3,rfl,hl4⟩:=Ye (n:=6) hl3;obtain⟨v4,r4,rfl,hl5⟩:=Ye (n:=5) hl4;obtain⟨v5,r5,rfl,hl6⟩:=Ye (n:=4) hl5;obtain⟨v6,r6,rfl,hl7⟩:=Ye (n:=3) hl6;obtain⟨v7,r7,rfl,hl8⟩:=Ye (n:=2) hl7;obtain⟨v8,r8,rfl,hl9⟩:=Ye (n:=1) hl8;obtain⟨v9,r9,rfl,hl10⟩:=Ye (n:=0) hl9;obtain rfl:=List.eq_nil_of_length_eq_zero hl10;clear hl0 hl1 hl2 hl3 hl4 hl5 hl6 hl7 hl8 hl9 hl10
   match i,ho,hp with
   |0,ho,hp=>
    obtain rfl:=Option.some.inj ho;clear hp;simp only[Yc,Act.put,La,Lz,Lc];have z9:=hb.size;simp only[World.size_alloc]at z9;have z0:=(hb.cell (p:=⟨w.heap.size,0,none⟩) ZX).trans f0;have z1:=(hb.cell (p:=⟨w.heap.size,1,none⟩) ZX).trans f1;have z2:=(hb.cell (p:=⟨w.heap.size,2,none⟩) ZX).trans f2;have zl:w.heap.size<w1.heap.size:=by omega
    go_simp
    try go_wp2
    refine hK.out (.agg #[.slice A0 F.vars.length c0,.slice A1 F.params.length c1,.slice A2 F.blocks.length c2]) _ _ ?_ ZE rfl;simp only[Yc,Act.put,La,Lz,Lc]
   |1,ho,hp=>
    obtain rfl:=Option.some.inj ho;clear hp;simp only[Yc,Act.put,La,Lz,Lc];go_simp
    try go_wp2
    refine hK.out (.int .i64 (F.vars.length:Int)) _ _ ?_ ZE rfl;simp only[Yc,Act.put,La,Lz,Lc]
   |2,ho,hp=>
    obtain rfl:=Option.some.inj ho;have q1:v1=.int .i64 (F.vars.length:Int):=hp 1 ZK;obtain rfl:=q1;clear hp;simp only[Yc,Act.put,La,Lz,Lc];obtain⟨w9,hrun,ho9,hg9⟩:=run_make_full (P:=Tryz.prog) w1 (w.heap.size+2) 44 2 ib2 _ 1 Tryz.underlying44 hib2 hz02 hz12 .i64 .i64 F.vars.length (by rw[hz22];omega) (by unfold maxLen;omega) (by have:=hb.size;simp at this;omega);have hb9:Below w1.heap.size w1 w9:=(Br _ _).grown hg9 (Nr _) (fun k hk=>by cases hk);rw[show(madeCells (Value.int .i64 0).cells (F.vars.length*1)).toList=List.replicate F.vars.length (Value.int .i64 0) by simp[Value.cells,toList_madeCells_one]]at ho9;go_simp;refine hK.out (.slice (some ⟨w1.heap.size,0,none⟩) F.vars.length F.vars.length) _ _ ?_ (hb9) (⟨_,rfl,ho9⟩);simp only[Yc,Act.put,La,Lz,Lc]
   |3,ho,hp=>
    obtain rfl:=Option.some.inj ho;clear hp;simp only[Yc,Act.put,La,Lz,Lc];go_simp
    try go_wp2
    refine hK.out (.int .i64 (F.vars.length:Int)) _ _ ?_ ZE rfl;simp only[Yc,Act.put,La,Lz,Lc]
   |4,ho,hp=>
    obtain rfl:=Option.some.inj ho;have q3:v3=.int .i64 (F.vars.length:Int):=hp 3 ZK;obtain rfl:=q3;clear hp;simp only[Yc,Act.put,La,Lz,Lc];obtain⟨w9,hrun,ho9,hg9⟩:=run_make_full (P:=Tryz.prog) w1 (w.heap.size+2) 72 4 ib4 _ 1 Tryz.underlying72 hib4 hz04 hz14 .i64 .i64 F.vars.length (by rw[hz24];omega) (by unfold maxLen;omega) (by have:=hb.size;simp at this;omega);have hb9:Below w1.heap.size w1 w9:=(Br _ _).grown hg9 (Nr _) (fun k hk=>by cases hk);rw[show(madeCells (Value.bool false).cells (F.vars.length*1)).toList=List.replicate F.vars.length (Value.bool false) by simp[Value.cells,toList_madeCells_one]]at ho9;go_simp;refine hK.out (.slice (some ⟨w1.heap.size,0,none⟩) F.vars.length F.vars.length) _ _ ?_ (hb9) (⟨_,rfl,ho9⟩);simp only[Yc,Act.put,La,Lz,Lc]
   |5,ho,hp=>
    obtain rfl:=Option.some.inj ho;clear hp;simp only[Yc,Act.put,La,Lz,Lc];go_simp
    try go_wp2
    refine hK.out (.int .i64 (F.vars.length:Int)) _ _ ?_ ZE rfl;simp only[Yc,Act.put,La,Lz,Lc]
   |6,ho,hp=>
    obtain rfl:=Option.some.inj ho;have q5:v5=.int .i64 (F.vars.length:Int):=hp 5 ZK;obtain rfl:=q5;clear hp;simp only[Yc,Act.put,La,Lz,Lc];obtain⟨w9,hrun,ho9,hg9⟩:=run_make_full (P:=Tryz.prog) w1 (w.heap.size+2) 23 3 ib6 _ 1 Tryz.underlying23 hib6 hz06 hz16 .i64 .i64 F.vars.length (by rw[hz26];omega) (by unfold maxLen;omega) (by have:=hb.size;simp at this;omega);have hb9:Below w1.heap.size w1 w9:=(Br _ _).grown hg9 (Nr _) (fun k hk=>by cases hk);rw[show(madeCells (Value.int .i64 0).cells (F.vars.length*1)).toList=List.replicate F.vars.length (Value.int .i64 0) by simp[Value.cells,toList_madeCells_one]]at ho9;go_simp;refine hK.out (.slice (some ⟨w1.heap.size,0,none⟩) F.vars.length F.vars.length) _ _ ?_ (hb9) (⟨_,rfl,ho9⟩);simp only[Yc,Act.put,La,Lz,Lc]
   |7,ho,hp=>
    obtain rfl:=Option.some.inj ho;have q0:v0=.agg #[.slice A0 F.vars.length c0,.slice A1 F.params.length c1,.slice A2 F.blocks.length c2]:=hp 0 ZK;have q2:∃g,v2=.slice (some ⟨g,0,none⟩) F.vars.length F.vars.length∧w1.ownsRow (w.heap.size+2) 2 1 (.slice (some ⟨g,0,none⟩) F.vars.length F.vars.length) F.vars.length (List.replicate F.vars.length (Value.int .i64 0)):=hp 2 ZK;have q4:∃g,v4=.slice (some ⟨g,0,none⟩) F.vars.length F.vars.length∧w1.ownsRow (w.heap.size+2) 4 1 (.slice (some ⟨g,0,none⟩) F.vars.length F.vars.length) F.vars.length (List.replicate F.vars.length (Value.bool false)):=hp 4 ZK;have q6:∃g,v6=.slice (some ⟨g,0,none⟩) F.vars.length F.vars.length∧w1.ownsRow (w.heap.size+2) 3 1 (.slice (some ⟨g,0,none⟩) F.vars.length F.vars.length) F.vars.length (List.replicate F.vars.length (Value.int .i64 0)):=hp 6 ZK;obtain rfl:=q0;obtain⟨g2,rfl,o2⟩:=q2;obtain⟨g4,rfl,o4⟩:=q4;obtain⟨g6,rfl,o6⟩:=q6;clear hp;simp only[Yc,Act.put,La,Lz,Lc];refine YnZ (cells:=#[.slice A0 F.vars.length c0,.slice A1 F.params.length c1,.slice A2 F.blocks.length c2,.slice (some ⟨g2,0,none⟩) F.vars.length F.vars.length,.slice (some ⟨g4,0,none⟩) F.vars.length F.vars.length,.slice (some ⟨g6,0,none⟩) F.vars.length F.vars.length,.slice none 0 0,.int .i64 0,.int .i64 0,.int .i64 0,.int .i64 0,.int .i64 0,.slice none 0 0,.int .i64 0,.int .i64 0,.int .i64 0,.int .i64 0,.int .i64 0,.int .i64 0,.int .i64 0,.int .i64 0,.int .i64 0,.bool false]) 74 _ rfl ZK ?_;refine hK.out (.agg #[.slice A0 F.vars.length c0,.slice A1 F.params.length c1,.slice A2 F.blocks.length c2,.slice (some ⟨g2,0,none⟩) F.vars.length F.vars.length,.slice (some ⟨g4,0,none⟩) F.vars.length F.vars.length,.slice (some ⟨g6,0,none⟩) F.vars.length F.vars.length,.slice none 0 0,.int .i64 0,.int .i64 0,.int .i64 0,.int .i64 0,.int .i64 0,.slice none 0 0,.int .i64 0,.int .i64 0,.int .i64 0,.int .i64 0,.int .i64 0,.int .i64 0,.int .i64 0,.int .i64 0,.int .i64 0,.bool false]) _ _ ?_ (Br _ _) (⟨_,_,_,rfl,o2,o4,o6⟩);simp only[Yc,Act.put,La,Lz,Lc]
   |8,ho,hp=>
    obtain rfl:=Option.some.inj ho;have q7:∃gi gb ga,v7=.agg #[.slice A0 F.vars.length c0,.slice A1 F.params.length c1,.slice A2 F.blocks.length c2,.slice (some ⟨gi,0,none⟩) F.vars.length F.vars.length,.slice (some ⟨gb,0,none⟩) F.vars.length F.vars.length,.slice (some ⟨ga,0,none⟩) F.vars.length F.vars.length,.slice none 0 0,.int .i64 0,.int .i64 0,.int .i64 0,.int .i64 0,.int .i64 0,.slice none 0 0,.int .i64 0,.int .i64 0,.int .i64 0,.int .i64 0,.int .i64 0,.int .i64 0,.int .i64 0,.int .i64 0,.int .i64 0,.bool false]∧BegOwn w1 (w.heap.size+2) F.vars.length gi gb ga:=hp 7 ZK;obtain⟨gi,gb,ga,rfl,ow⟩:=q7;clear hp;simp only[Yc,Act.put,La,Lz,Lc];go_simp;refine hK.out (.pointer (some ⟨w1.heap.size,0,none⟩)) _ _ ?_ ((Br _ _).alloc (Nr _) _) (⟨_,gi,gb,ga,rfl,by have:=hb.size;simp at this;omega,BoxAt.new _ _ _,ow.below ((Br _ _).alloc (Nr _) _)⟩);simp only[Yc,Act.put,La,Lz,Lc]
   |9,ho,hp=>
    obtain rfl:=Option.some.inj ho;have q0:v0=.agg #[.slice A0 F.vars.length c0,.slice A1 F.params.length c1,.slice A2 F.blocks.length c2]:=hp 0 ZK;have q1:v1=.int .i64 (F.vars.length:Int):=hp 1 ZK;have q2:∃g,v2=.slice (some ⟨g,0,none⟩) F.vars.length F.vars.length∧w1.ownsRow (w.heap.size+2) 2 1 (.slice (some ⟨g,0,none⟩) F.vars.length F.vars.length) F.vars.length (List.replicate F.vars.length (Value.int .i64 0)):=hp 2 ZK;have q3:v3=.int .i64 (F.vars.length:Int):=hp 3 ZK;have q4:∃g,v4=.slice (some ⟨g,0,none⟩) F.vars.length F.vars.length∧w1.ownsRow (w.heap.size+2) 4 1 (.slice (some ⟨g,0,none⟩) F.vars.length F.vars.length) F.vars.length (List.replicate F.vars.length (Value.bool false)):=hp 4 ZK;have q5:v5=.int .i64 (F.vars.length:Int):=hp 5 ZK;have q6:∃g,v6=.slice (some ⟨g,0,none⟩) F.vars.length F.vars.length∧w1.ownsRow (w.heap.size+2) 3 1 (.slice (some ⟨g,0,none⟩) F.vars.length F.vars.length) F.vars.length (List.replicate F.vars.length (Value.int .i64 0)):=hp 6 ZK;have q7:∃gi gb ga,v7=.agg #[.slice A0 F.vars.length c0,.slice A1 F.params.length c1,.slice A2 F.blocks.length c2,.slice (some ⟨gi,0,none⟩) F.vars.length F.vars.length,.slice (some ⟨gb,0,none⟩) F.vars.length F.vars.length,.slice (some ⟨ga,0,none⟩) F.vars.length F.vars.length,.slice none 0 0,.int .i64 0,.int .i64 0,.int .i64 0,.int .i64 0,.int .i64 0,.slice none 0 0,.int .i64 0,.int .i64 0,.int .i64 0,.int .i64 0,.int .i64 0,.int .i64 0,.int .i64 0,.int .i64 0,.int .i64 0,.bool false]∧BegOwn w1 (w.heap.size+2) F.vars.length gi gb ga:=hp 7 ZK;have q8:∃nb gi gb ga,v8=.pointer (some ⟨nb,0,none⟩)∧w.heap.size+2≤nb∧BoxAt w1 nb #[.slice A0 F.vars.length c0,.slice A1 F.params.length c1,.slice A2 F.blocks.length c2,.slice (some ⟨gi,0,none⟩) F.vars.length F.vars.length,.slice (some ⟨gb,0,none⟩) F.vars.length F.vars.length,.slice (some ⟨ga,0,none⟩) F.vars.length F.vars.length,.slice none 0 0,.int .i64 0,.int .i64 0,.int .i64 0,.int .i64 0,.int .i64 0,.slice none 0 0,.int .i64 0,.int .i64 0,.int .i64 0,.int .i64 0,.int .i64 0,.int .i64 0,.int .i64 0,.int .i64 0,.int .i64 0,.bool false] 74∧BegOwn w1 (w.heap.size+2) F.vars.length gi gb ga:=hp 8 ZK;obtain rfl:=q0;obtain rfl:=q1;obtain⟨g2,rfl,o2⟩:=q2;obtain rfl:=q3;obtain⟨g4,rfl,o4⟩:=q4;obtain rfl:=q5;obtain⟨g6,rfl,o6⟩:=q6;obtain⟨gi,gb,ga,rfl,ow⟩:=q7;obtain⟨nb,gi,gb,ga,rfl,hnb,hbx,ow⟩:=q8;clear hp;simp only[Yc,Act.put,La,Lz,Lc];go_simp;refine hK.out (.pointer (some ⟨nb,0,none⟩)) _ _ ?_ (Br _ _) (⟨nb,gi,gb,ga,rfl,hnb,hbx,ow⟩);simp only[Yc,Act.put,La,Lz,Lc]
   |k+10,ho,_=>cases ho
  case fin=>
   intro vs w1 hl hb1 hp;have hl0:vs.length=10:=hl;clear hl;obtain⟨v0,r0,rfl,hl1⟩:=Ye (n:=9) hl0;obtain⟨v1,r1,rfl,hl2⟩:=Ye (n:=8) hl1;obtain⟨v2,r2,rfl,hl3⟩:=Ye (n:=7) hl2;obtain⟨v3,r3,rfl,hl4⟩:=Ye (n:=6) hl3;obtain⟨v4,r4,rfl,hl5⟩:=Ye (n:=5) hl4;obtain⟨v5,r5,rfl,hl6⟩:=Ye (n:=4) hl5;obtain⟨v6,r6,rfl,hl7⟩:=Ye (n:=3) hl6;obtain⟨v7,r7,rfl,hl8⟩:=Ye (n:=2) hl7;obtain⟨v8,r8,rfl,hl9⟩:=Ye (n:=1) hl8;obtain⟨v9,r9,rfl,hl10⟩:=Ye (n:=0) hl9;obtain rfl:=List.eq_nil_of_length_eq_zero hl10;clear hl0 hl1 hl2 hl3 hl4 hl5 hl6 hl7 hl8 hl9 hl10;have q0:v0=.agg #[.slice A0 F.vars.length c0,.slice A1 F.params.length c1,.slice A2 F.blocks.length c2]:=hp 0 (of_decide_eq_true ZK);have q1:v1=.int .i64 (F.vars.length:Int):=hp 1 (of_decide_eq_true ZK);have q2:∃g,v2=.slice (some ⟨g,0,none⟩) F.vars.length F.vars.length∧w1.ownsRow (w.heap.size+2) 2 1 (.slice (some ⟨g,0,none⟩) F.vars.length F.vars.length) F.vars.length (List.replicate F.vars.length (Value.int .i64 0)):=hp 2 (of_decide_eq_true ZK);have q3:v3=.int .i64 (F.vars.length:Int):=hp 3 (of_decide_eq_true ZK);have q4:∃g,v4=.slice (some ⟨g,0,none⟩) F.vars.length F.vars.length∧w1.ownsRow (w.heap.size+2) 4 1 (.slice (some ⟨g,0,none⟩) F.vars.length F.vars.length) F.vars.length (List.replicate F.vars.length (Value.bool false)):=hp 4 (of_decide_eq_true ZK);have q5:v5=.int .i64 (F.vars.length:Int):=hp 5 (of_decide_eq_true ZK);have q6:∃g,v6=.slice (some ⟨g,0,none⟩) F.vars.length F.vars.length∧w1.ownsRow (w.heap.size+2) 3 1 (.slice (some ⟨g,0,none⟩) F.vars.length F.vars.length) F.vars.length (List.replicate F.vars.length (Value.int .i64 0)):=hp 6 (of_decide_eq_true ZK);have q7:∃gi gb ga,v7=.agg #[.slice A0 F.vars.length c0,.slice A1 F.params.length c1,.slice A2 F.blocks.length c2,.slice (some ⟨gi,0,none⟩) F.vars.length F.vars.length,.slice (some ⟨gb,0,none⟩) F.vars.length F.vars.length,.slice (some ⟨ga,0,none⟩) F.vars.length F.vars.length,.slice none 0 0,.int .i64 0,.int .i64 0,.int .i64 0,.int .i64 0,.int .i64 0,.slice none 0 0,.int .i64 0,.int .i64 0,.int .i64 0,.int .i64 0,.int .i64 0,.int .i64 0,.int .i64 0,.int .i64 0,.int .i64 0,.bool false]∧BegOwn w1 (w.heap.size+2) F.vars.length gi gb ga:=hp 7 (of_decide_eq_true ZK);have q8:∃nb gi gb ga,v8=.pointer (some ⟨nb,0,none⟩)∧w.heap.size+2≤nb∧BoxAt w1 nb #[.slice A0 F.vars.length c0,.slice A1 F.params.length c1,.slice A2 F.blocks.length c2,.slice (some ⟨gi,0,none⟩) F.vars.length F.vars.length,.slice (some ⟨gb,0,none⟩) F.vars.length F.vars.length,.slice (some ⟨ga,0,none⟩) F.vars.length F.vars.length,.slice none 0 0,.int .i64 0,.int .i64 0,.int .i64 0,.int .i64 0,.int .i64 0,.slice none 0 0,.int .i64 0,.int .i64 0,.int .i64 0,.int .i64 0,.int .i64 0,.int .i64 0,.int .i64 0,.int .i64 0,.int .i64 0,.bool false] 74∧BegOwn w1 (w.heap.size+2) F.vars.length gi gb ga:=hp 8 (of_decide_eq_true ZK);have q9:∃nb gi gb ga,v9=.pointer (some ⟨nb,0,none⟩)∧w.heap.size+2≤nb∧BoxAt w1 nb #[.slice A0 F.vars.length c0,.slice A1 F.params.length c1,.slice A2 F.blocks.length c2,.slice (some ⟨gi,0,none⟩) F.vars.length F.vars.length,.slice (some ⟨gb,0,none⟩) F.vars.length F.vars.length,.slice (some ⟨ga,0,none⟩) F.vars.length F.vars.length,.slice none 0 0,.int .i64 0,.int .i64 0,.int .i64 0,.int .i64 0,.int .i64 0,.slice none 0 0,.int .i64 0,.int .i64 0,.int .i64 0,.int .i64 0,.int .i64 0,.int .i64 0,.int .i64 0,.int .i64 0,.int .i64 0,.bool false] 74∧BegOwn w1 (w.heap.size+2) F.vars.length gi gb ga:=hp 9 (of_decide_eq_true ZK);obtain rfl:=q0;obtain rfl:=q1;obtain⟨g2,rfl,o2⟩:=q2;obtain rfl:=q3;obtain⟨g4,rfl,o4⟩:=q4;obtain rfl:=q5;obtain⟨g6,rfl,o6⟩:=q6;obtain⟨gi,gb,ga,rfl,ow⟩:=q7;obtain⟨nb,gi,gb,ga,rfl,hnb,hbx,ow⟩:=q8;obtain⟨nb,gi,gb,ga,rfl,hnb,hbx,ow⟩:=q9;clear hp;simp only[Yc,Act.put,La,Lz,Lc];go_wp2_with fail
   go_meet
   exact⟨_,_,_,_,rfl,BegOwn.run ow hnb hbx,by simpa using hb1⟩
 case rest=>as_aux_lemma=>
  obtain⟨nb,gi,gb,ga,rfl,h0,hb0⟩:=hcut;have xl:=h0.box.lt;have k9:=h0.box.cell 9;have k5:=h0.box.cell 5;have f9:=h0.box.frozen 9;replace k9:wc.cell? ⟨nb,9,none⟩=some (.int .i64 0):=k9;replace k5:wc.cell? ⟨nb,5,none⟩=some (.slice (some ⟨ga,0,none⟩) F.vars.length F.vars.length):=k5;have hnb:w.heap.size+2≤nb:=Nat.le_of_not_lt h0.bs;have gi0:w.heap.size+2≤gi:=Nat.le_of_not_lt h0.di;have gb0:w.heap.size+2≤gb:=Nat.le_of_not_lt h0.db;have ga0:w.heap.size+2≤ga:=Nat.le_of_not_lt h0.da
  have H0:=Lh (show RunO (wc.setCell ⟨nb,9,none⟩ (.int .i64 3)) (fun k=>k<w.heap.size+2) (.slice A0 F.vars.length c0) (.slice A1 F.params.length c1) (.slice A2 F.blocks.length c2) nb gi gb ga F.vars.length (.slice none 0 0) (.slice none 0 0) [] (Ycq F.vars.length 0)from by
   rw[Yn7]
   exact h0.setBox rfl rfl rfl rfl rfl rfl)
  have HB0:=Lh (hb0.setCell (p:=⟨nb,9,none⟩) hnb (.int .i64 3));clear h0 hb0;go_wp2
  go_loopw[33] (fun x wr=>∃i:Nat,x=.int .i64 i∧i≤F.vars.length∧RunO wr (fun k=>k<w.heap.size+2) (.slice A0 F.vars.length c0) (.slice A1 F.params.length c1) (.slice A2 F.blocks.length c2) nb gi gb ga F.vars.length (.slice none 0 0) (.slice none 0 0) [] (Ycq F.vars.length i)∧Below (w.heap.size+2) ((w.alloc (.cells #[.slice A0 F.vars.length c0,.slice A1 F.params.length c1,.slice A2 F.blocks.length c2] 26)).alloc (.cells #[.slice B0 I.args.length d0,.slice B1 I.rows.length d1] 38)) wr) (fun x _=>F.vars.length-(intOf x).toNat)
  case atStart=>exact⟨0,rfl,Nz _,H0.out,HB0.out⟩
  case round=>as_aux_lemma=>
   clear k9 k5 f9 xl H0 HB0;obtain⟨i,rfl,hi,h4,hb4⟩:=hrel;have xl:=h4.box.lt;have k5:=h4.box.cell 5;replace k5:wr.cell? ⟨nb,5,none⟩=some (.slice (some ⟨ga,0,none⟩) F.vars.length F.vars.length):=k5
   by_cases hlt:i<F.vars.length
   · as_aux_lemma=>
     have hiI:(i:Int)<(F.vars.length:Int):=by omega
     have gal:=(h4.arrs.lt ga rfl).2;have ya:=Yn h4.arrs hlt;have fa:=h4.arrs.frozenAt i;have H4:=Lh h4;have HB4:=Lh hb4;clear h4 hb4;go_wp2;go_roundw
     case rel=>exact⟨i+1,ZN,ZO,by rw[← Yn8];exact RunO.setA H4.out rfl _,Below.setCell HB4.out ga0 _⟩
     case measure=>simp[intOf];omega
   · as_aux_lemma=>
     obtain rfl:i=F.vars.length:=by omega
     obtain⟨bl,-,by_⟩:=Yen hb4;have y0:wr.cell? ⟨w.heap.size+1,0,none⟩=some (.slice B0 I.args.length d0):=by_ 0;have H4:=Lh h4;have HB4:=Lh hb4;clear h4 hb4 by_ k5 xl;go_wp2;clear y0 bl
     go_loopw[46] (fun x wr=>∃i:Nat,x=.int .i64 i∧i≤I.args.length∧RunO wr (fun k=>k<w.heap.size+2) (.slice A0 F.vars.length c0) (.slice A1 F.params.length c1) (.slice A2 F.blocks.length c2) nb gi gb ga F.vars.length (.slice none 0 0) (.slice none 0 0) [] (Yao F I i)∧Below (w.heap.size+2) ((w.alloc (.cells #[.slice A0 F.vars.length c0,.slice A1 F.params.length c1,.slice A2 F.blocks.length c2] 26)).alloc (.cells #[.slice B0 I.args.length d0,.slice B1 I.rows.length d1] 38)) wr) (fun x _=>I.args.length-(intOf x).toNat)
     case atStart=>exact⟨0,rfl,Nz _,by rw[Yn9];exact H4.out,HB4.out⟩
     case round=>as_aux_lemma=>
      clear H4 HB4;obtain⟨i,rfl,hi,h4,hb4⟩:=hrel;obtain⟨bl,bx,by_⟩:=Yen hb4;have x0:wr.cell? ⟨w.heap.size,0,none⟩=some (.slice A0 F.vars.length c0):=bx 0;have y1:wr.cell? ⟨w.heap.size+1,1,none⟩=some (.slice B1 I.rows.length d1):=by_ 1;have bl0:=Ns bl;have xl:=h4.box.lt;have k3:=h4.box.cell 3;have k4:=h4.box.cell 4;have k5:=h4.box.cell 5;replace k3:wr.cell? ⟨nb,3,none⟩=some (.slice (some ⟨gi,0,none⟩) F.vars.length F.vars.length):=k3;replace k4:wr.cell? ⟨nb,4,none⟩=some (.slice (some ⟨gb,0,none⟩) F.vars.length F.vars.length):=k4;replace k5:wr.cell? ⟨nb,5,none⟩=some (.slice (some ⟨ga,0,none⟩) F.vars.length F.vars.length):=k5;have hbw:Below w.heap.size w wr:=HX0.out.trans (hb4.mono ZO);have hWr:=HW.out.trans (hbw.mono HW.out.size);clear bx by_
      by_cases hlt:i<I.args.length
      · as_aux_lemma=>
        have hln:(i:Int)<(I.args.length:Int):=by omega
        have hiv:i<F.vars.length:=by omega
        have hlv:(i:Int)<(F.vars.length:Int):=by omega
        obtain⟨b,off,rfl,hbl,z0,z1,z2⟩:=HQ0.out.arg hWr hlt;obtain⟨b',off',rfl,hbl',-,-,u1⟩:=HR0.out.var hWr (i:=i) hiv;have gil:=(h4.ints.lt gi rfl).2;have gbl:=(h4.bools.lt gb rfl).2;have gal:=(h4.arrs.lt ga rfl).2;have yi:=Yn h4.ints hiv;have yb:=Y9 h4.bools hiv;have ya:=Yn h4.arrs hiv;have fi:=h4.ints.frozenAt i;have fb:=h4.bools.frozenAt i;have fa:=h4.arrs.frozenAt i;have S0:=Lh (Yoa (F:=F) (I:=I) (k:=i));have S1:=Lh (Yob (F:=F) (I:=I) (k:=i));have S2:=Lh (Yoc (F:=F) (I:=I) (k:=i));have H4:=Lh h4;have HB4:=Lh hb4;clear h4 hb4 hbw hWr;generalize (F.var i).ty=ty at *;generalize (I.arg i).int=p at *;generalize (I.arg i).boo=q at *;generalize (I.arg i).arr=r at *;obtain⟨wq,rfl⟩:∃wq:World,wq=wr:=⟨_,rfl⟩
        by_cases e0:ty=0
        · as_aux_lemma=>
          subst e0;have HS:=Lh (S0.out rfl);clear S0 S1 S2;go_wp2_with fail;obtain⟨S0,hS0⟩:∃S0:World→Prop,S0=fun w'=>w'.cell? ⟨nb,3,none⟩=some (.slice (some ⟨gi,0,none⟩) F.vars.length F.vars.length)∧w'.cell? ⟨wq.heap.size,0,none⟩=some (.int .i64 p)∧nb<w'.heap.size∧wq.heap.size<w'.heap.size:=⟨_,rfl⟩
          have HS0:=Lh hS0;clear hS0;have k0:=fun xw=>(WS.at HS0 xw).1
          have k1:=fun xw=>(WS.at HS0 xw).2.1
          have k2:=fun xw=>(WS.at HS0 xw).2.2.1
          have k3:=fun xw=>(WS.at HS0 xw).2.2.2
          refine YZ (S:=S0) [8] ZK ?hS (fun hSc hcl=>?_)
          case hS=>
           rw[HS0.out];exact⟨ZI,ZI,ZJ,ZJ⟩
          have hne0:Nonempty (WS S0):=⟨⟨_,hSc⟩⟩;have hneT:Nonempty (WS (fun _=>True)):=match hne0 with|⟨x⟩=>⟨⟨x.w,trivial⟩⟩
          refine YT [(0,0),(1,0),(2,0),(3,0),(4,0),(5,0),(6,0),(7,0)] 1 rfl ZK (fun _ _ _ _ _ h=>h) hSc hcl ?_
          all_goals
           (try simp only[List.map_cons,List.map_nil,Ld,Le])
           repeat
            first
            |((with_reducible refine YU ?_ ?_);exact rfl;dsimp only;go_big_quiet_step (fail);(try with_reducible refine wpQuiet_nil ?_);(try dsimp only))
            |((with_reducible refine YV ?_ ?_);exact rfl;dsimp only;go_big_quiet_step (fail);(try with_reducible refine wpQuiet_nil ?_);(try dsimp only))
           (try(refine YW ?_;intro hSc hcl))
          all_goals
           refine Y0 [8] rfl ZK ?_;simp only[List.map_cons,List.map_nil,Ld,Le];rw[HS0.out]at hSc;obtain⟨p0,p1,p2,p3⟩:=hSc;clear hne0 hneT hcl HS0 k0 k1 k2 k3;go_wp2;go_roundw
           case rel=>exact⟨i+1,ZN,ZO,by rw[← HS.out];exact RunO.below (RunO.setI H4.out rfl _) BL,by first|exact((Below.setCell HB4.out gi0 _).alloc (by have:=HB4.out.size;simpa using this) _).drew|exact((Below.setCell HB4.out gi0 _).alloc (by have:=HB4.out.size;simpa using this) _)⟩
           case measure=>(simp[intOf];omega)
        · have e0':(ty==0)=false:=by rw[beq_eq_false_iff_ne];exact e0
          by_cases e1:ty=1
          · as_aux_lemma=>
            subst e1;have HS:=Lh (S1.out rfl);clear S0 S1 S2;go_wp2_with fail;obtain⟨S0,hS0⟩:∃S0:World→Prop,S0=fun w'=>w'.cell? ⟨nb,4,none⟩=some (.slice (some ⟨gb,0,none⟩) F.vars.length F.vars.length)∧w'.cell? ⟨wq.heap.size,1,none⟩=some (.bool q)∧nb<w'.heap.size∧wq.heap.size<w'.heap.size:=⟨_,rfl⟩
            have HS0:=Lh hS0;clear hS0;have k0:=fun xw=>(WS.at HS0 xw).1
            have k1:=fun xw=>(WS.at HS0 xw).2.1
            have k2:=fun xw=>(WS.at HS0 xw).2.2.1
            have k3:=fun xw=>(WS.at HS0 xw).2.2.2
            refine YZ (S:=S0) [8] ZK ?hS (fun hSc hcl=>?_)
            case hS=>
             rw[HS0.out];exact⟨ZI,ZI,ZJ,ZJ⟩
            have hne0:Nonempty (WS S0):=⟨⟨_,hSc⟩⟩;have hneT:Nonempty (WS (fun _=>True)):=match hne0 with|⟨x⟩=>⟨⟨x.w,trivial⟩⟩
            refine YT [(0,0),(1,0),(2,0),(3,0),(4,0),(5,0),(6,0),(7,0)] 1 rfl ZK (fun _ _ _ _ _ h=>h) hSc hcl ?_
            all_goals
             (try simp only[List.map_cons,List.map_nil,Ld,Le])
             repeat
              first
              |((with_reducible refine YU ?_ ?_);exact rfl;dsimp only;go_big_quiet_step (fail);(try with_reducible refine wpQuiet_nil ?_);(try dsimp only))
              |((with_reducible refine YV ?_ ?_);exact rfl;dsimp only;go_big_quiet_step (fail);(try with_reducible refine wpQuiet_nil ?_);(try dsimp only))
             (try(refine YW ?_;intro hSc hcl))
            all_goals
             refine Y0 [8] rfl ZK ?_;simp only[List.map_cons,List.map_nil,Ld,Le];rw[HS0.out]at hSc;obtain⟨p0,p1,p2,p3⟩:=hSc;clear hne0 hneT hcl HS0 k0 k1 k2 k3;go_wp2;go_roundw
             case rel=>exact⟨i+1,ZN,ZO,by rw[← HS.out];exact RunO.below (RunO.setB H4.out rfl _) BL,by first|exact((Below.setCell HB4.out gb0 _).alloc (by have:=HB4.out.size;simpa using this) _).drew|exact((Below.setCell HB4.out gb0 _).alloc (by have:=HB4.out.size;simpa using this) _)⟩
             case measure=>(simp[intOf];omega)
          · as_aux_lemma=>
            have e1':(ty==1)=false:=by rw[beq_eq_false_iff_ne];exact e1
            have HS:=Lh (S2.out e0 e1);clear S0 S1 S2;go_wp2_with fail;obtain⟨S0,hS0⟩:∃S0:World→Prop,S0=fun w'=>w'.cell? ⟨nb,5,none⟩=some (.slice (some ⟨ga,0,none⟩) F.vars.length F.vars.length)∧w'.cell? ⟨wq.heap.size,2,none⟩=some (.int .i64 r)∧nb<w'.heap.size∧wq.heap.size<w'.heap.size:=⟨_,rfl⟩
            have HS0:=Lh hS0;clear hS0;have k0:=fun xw=>(WS.at HS0 xw).1
            have k1:=fun xw=>(WS.at HS0 xw).2.1
            have k2:=fun xw=>(WS.at HS0 xw).2.2.1
            have k3:=fun xw=>(WS.at HS0 xw).2.2.2
            refine YZ (S:=S0) [8] ZK ?hS (fun hSc hcl=>?_)
            case hS=>
             rw[HS0.out];exact⟨ZI,ZI,ZJ,ZJ⟩
            have hne0:Nonempty (WS S0):=⟨⟨_,hSc⟩⟩;have hneT:Nonempty (WS (fun _=>True)):=match hne0 with|⟨x⟩=>⟨⟨x.w,trivial⟩⟩
            refine YT [(0,0),(1,0),(2,0),(3,0),(4,0),(5,0),(6,0),(7,0)] 1 rfl ZK (fun _ _ _ _ _ h=>h) hSc hcl ?_
            all_goals
             (try simp only[List.map_cons,List.map_nil,Ld,Le])
             repeat
              first
              |((with_reducible refine YU ?_ ?_);exact rfl;dsimp only;go_big_quiet_step (fail);(try with_reducible refine wpQuiet_nil ?_);(try dsimp only))
              |((with_reducible refine YV ?_ ?_);exact rfl;dsimp only;go_big_quiet_step (fail);(try with_reducible refine wpQuiet_nil ?_);(try dsimp only))
             (try(refine YW ?_;intro hSc hcl))
            all_goals
             refine Y0 [8] rfl ZK ?_;simp only[List.map_cons,List.map_nil,Ld,Le];rw[HS0.out]at hSc;obtain⟨p0,p1,p2,p3⟩:=hSc;clear hne0 hneT hcl HS0 k0 k1 k2 k3;go_wp2;go_roundw
             case rel=>exact⟨i+1,ZN,ZO,by rw[← HS.out];exact RunO.below (RunO.setA H4.out rfl _) BL,by first|exact((Below.setCell HB4.out ga0 _).alloc (by have:=HB4.out.size;simpa using this) _).drew|exact((Below.setCell HB4.out ga0 _).alloc (by have:=HB4.out.size;simpa using this) _)⟩
             case measure=>(simp[intOf];omega)
      · as_aux_lemma=>
        obtain rfl:i=I.args.length:=by omega
        have H4:=Lh h4;have HB4:=Lh hb4;clear h4 hb4 hbw hWr k3 k4 k5 xl;go_wp2;clear x0 y1 bl bl0
        go_loopw[89] (fun x wr=>∃(i:Nat) (vr:Value) (vrs:List Value),x=.int .i64 i∧i≤I.rows.length∧RunO wr (fun k=>k<w.heap.size+2) (.slice A0 F.vars.length c0) (.slice A1 F.params.length c1) (.slice A2 F.blocks.length c2) nb gi gb ga F.vars.length vr (.slice none 0 0) vrs ({ Yao F I I.args.length with rows:=I.rows.take i })∧Below (w.heap.size+2) ((w.alloc (.cells #[.slice A0 F.vars.length c0,.slice A1 F.params.length c1,.slice A2 F.blocks.length c2] 26)).alloc (.cells #[.slice B0 I.args.length d0,.slice B1 I.rows.length d1] 38)) wr) (fun x _=>I.rows.length-(intOf x).toNat)
        case atStart=>exact⟨0,_,_,rfl,Nz _,H4.out,HB4.out⟩
        case round=>as_aux_lemma=>
         clear H4 HB4;obtain⟨i,vr,vrs,rfl,hi,h4,hb4⟩:=hrel;have hbw:Below w.heap.size w wr:=HX0.out.trans (hb4.mono ZO);have hWr:=HW.out.trans (hbw.mono HW.out.size)
         by_cases hlt:i<I.rows.length
         · as_aux_lemma=>
           have hln:(i:Int)<(I.rows.length:Int):=by omega
           obtain⟨b,off,Ar,cr,rfl,hbl,hcell,lr,kr,rr⟩:=YeN HQ1.out hWr hlt;have hlen:=(I.rows.getD i []).length;have hro:(I.rows.getD i []).length≤64:=HR.out.ll i hlt
           have HS:=Lh (show({ Yao F I I.args.length with rows:=I.rows.take i }:RSt).addR (I.rows.getD i [])={ Yao F I I.args.length with rows:=I.rows.take (i+1) } by
            unfold RSt.addR;dsimp only;rw[List.take_add_one,List.getElem?_eq_getElem hlt,List.getD_eq_getElem?_getD,List.getElem?_eq_getElem hlt]
            rfl)
           have hvl:({ Yao F I I.args.length with rows:=I.rows.take i }:RSt).rows.length=i:=by simp;omega
           have xl:=h4.box.lt;have k6:=h4.box.cell 6;have f6:=h4.box.frozen 6;replace k6:wr.cell? ⟨nb,6,none⟩=some vr:=k6;have hown:=h4.arr;rw[hvl]at hown;obtain⟨Av,cv,rfl⟩:=Yh hown;obtain⟨v9,w9,hr9,ho9,hb9⟩:=Yn6 (P:=Tryz.prog) (ty:=44) wr.drew (t:=44) 2 Tryz.underlying44 Tryz.infoI64 rfl (c:=cr) ((rr.move hWr).keep (Nr _) fun _ _ _ _ h=>h) ZO;rw[heap_drew]at ho9 hb9;have hB9:Below wr.heap.size wr w9:=((Br wr.heap.size wr).drew).trans hb9;obtain⟨A9,c9,rfl⟩:=Yh ho9;have hown9:=Yl hown hB9;obtain⟨v8,w8,hr8,ho8,hg8,hf8⟩:=YfP (P:=Tryz.prog) (ty:=36) w9 (t:=36) 0 44 24 Tryz.underlying36 Tryz.infoR64 rfl _ _ _ hown9 (.slice A9 (I.rows.getD i []).length c9) rfl ZO ZD (Nz _);obtain⟨A8,c8,rfl⟩:=Yh ho8;have hfn:∀k,(Value.slice A9 (I.rows.getD i []).length c9).ownBlock=some k→wr.heap.size≤k:=fun k hk=>(ho9.lt k hk).1
           have H9:=h4.below hB9;obtain⟨x8,f8,l8⟩:=RunO.grownR H9 hg8;have x9:=(hB9.cell (p:=⟨nb,6,none⟩) xl).trans k6;have l9:=Nt xl hB9.size
           have HR8:=Lh (show RunO (w8.setCell ⟨nb,6,none⟩ (.slice A8 (i+1) c8)) (fun k=>k<w.heap.size+2) (.slice A0 F.vars.length c0) (.slice A1 F.params.length c1) (.slice A2 F.blocks.length c2) nb gi gb ga F.vars.length (.slice A8 (i+1) c8) (.slice none 0 0) (vrs++[.slice A9 (I.rows.getD i []).length c9]) { Yao F I I.args.length with rows:=I.rows.take (i+1) } from by
            rw[← HS.out]
            exact RunO.addR h4 (fun k hk=>by have:=hb4.size;simp at this;omega) hB9 (Ybv ho9 (Nz _)) hfn (by rw[hvl];exact ho8) hg8 hf8)
           have HB8:=Lh (show Below (w.heap.size+2) ((w.alloc (.cells #[.slice A0 F.vars.length c0,.slice A1 F.params.length c1,.slice A2 F.blocks.length c2] 26)).alloc (.cells #[.slice B0 I.args.length d0,.slice (some ⟨b,off,none⟩) I.rows.length d1] 38)) (w8.setCell ⟨nb,6,none⟩ (.slice A8 (i+1) c8)) from
            Below.setCell (((hb4.trans (hB9.mono (by have:=hb4.size;simpa using this))).alloc (by have h1:=hb4.size;have h2:=hB9.size;simp at h1;omega) _).grown hg8 (by have h1:=hb4.size;have h2:=hB9.size;simp at h1 ⊢;omega) (fun k hk=>Nat.le_of_not_lt (h4.dr k hk))) hnb _)
           clear h4 hb4 hbw hWr hown hown9 H9 ho9 ho8 hg8 hf8 hfn hb9 hvl rr;have hlen:(I.rows.getD i []).length=(I.rows.getD i []).length:=rfl;generalize (I.rows.getD i []).length=m at *;clear hlen;obtain⟨wq,rfl⟩:∃wq:World,wq=wr:=⟨_,rfl⟩;go_wp2_with fail;obtain⟨S0,hS0⟩:∃S0:World→Prop,S0=fun w'=>w'.cell? ⟨nb,6,none⟩=some (.slice Av i cv)∧nb<w'.heap.size:=⟨_,rfl⟩
           have HS0:=Lh hS0;clear hS0;have k0:=fun xw=>(WS.at HS0 xw).1
           have k1:=fun xw=>(WS.at HS0 xw).2
           refine YZ (S:=S0) [12] ZK ?hS (fun hSc hcl=>?_)
           case hS=>
            rw[HS0.out];exact⟨ZI,ZJ⟩
           have hne0:Nonempty (WS S0):=⟨⟨_,hSc⟩⟩;have hneT:Nonempty (WS (fun _=>True)):=match hne0 with|⟨x⟩=>⟨⟨x.w,trivial⟩⟩
           refine YT [(0,0),(1,0),(2,0),(3,0),(4,0),(6,0),(5,1),(7,1),(8,1),(9,1),(10,0),(11,0)] 1 rfl ZK (fun _ _ _ _ _ h=>h) hSc hcl ?_
           all_goals
            (try simp only[List.map_cons,List.map_nil,Ld,Le])
            repeat
             first
             |((with_reducible refine YU ?_ ?_);exact rfl;dsimp only;go_big_quiet_step (fail);(try with_reducible refine wpQuiet_nil ?_);(try dsimp only))
             |((with_reducible refine YV ?_ ?_);exact rfl;dsimp only;go_big_quiet_step (fail);(try with_reducible refine wpQuiet_nil ?_);(try dsimp only))
             |((with_reducible refine YaI ?_ ?_ (fun K hK=>?_))
               exact rfl;exact rfl;dsimp only
               first
               |(first|(refine YbN _ _ _ rfl rfl rfl hr9 ?_;simp only[Act.put,La,Lz,Lc])|(refine YbN _ _ _ rfl rfl rfl hr8 ?_;simp only[Act.put,La,Lz,Lc]))
               |(go_simp)
               refine hK.out _ _ ?hS (fun hSc=>?_)
               case hS=>
                first
                |exact hSc
                |(rw[HS0.out]at hSc ⊢;obtain⟨p0,p1⟩:=hSc;exact⟨ZC0,(by first|exact Nt p1 hb9.size|exact ZT)⟩)
               clear hK K)
            (try(refine YW ?_;intro hSc hcl))
           all_goals
            refine Y0 [12] rfl ZK ?_;simp only[List.map_cons,List.map_nil,Ld,Le];rw[HS0.out]at hSc;obtain⟨p0,p1⟩:=hSc;clear hne0 hneT hcl HS0 k0 k1;go_wp2;go_roundw
            case rel=>exact⟨i+1,_,_,ZN,ZO,HR8.out,HB8.out⟩
            case measure=>(simp[intOf];omega)
         · as_aux_lemma=>
           obtain rfl:i=I.rows.length:=by omega
           rw[List.take_length]at h4;have HF:=Lh (show RunO wr (fun k=>k<w.heap.size) (.slice A0 F.vars.length c0) (.slice A1 F.params.length c1) (.slice A2 F.blocks.length c2) nb gi gb ga F.vars.length vr (.slice none 0 0) vrs (YR F I)from h4.monoD fun k hk=>ZO);have HBW:=Lh hbw;clear h4 hb4 hbw hWr;go_wp2;go_ret;exact⟨_,_,_,_,_,_,rfl,HF.out,HBW.out⟩
structure InBox (w:World) (B:Nat) (x0 x1 x2 y0 y1:Value):Prop where
 lt:B+1<w.heap.size
 f0:w.cell? ⟨B,0,none⟩=some x0
 f1:w.cell? ⟨B,1,none⟩=some x1
 f2:w.cell? ⟨B,2,none⟩=some x2
 i0:w.cell? ⟨B+1,0,none⟩=some y0
 i1:w.cell? ⟨B+1,1,none⟩=some y1
section
variable {w w':World} {x0 x1 x2 y0 y1:Value} {B:Nat} {t0 t1:TypeId}
theorem InBox.of(hb:Below (w.heap.size+2) ((w.alloc (.cells #[x0,x1,x2] t0)).alloc (.cells #[y0,y1] t1)) w'):InBox w' w.heap.size x0 x1 x2 y0 y1:=by
 obtain⟨bl,bx,by_⟩:=Yen hb;exact⟨bl,bx 0,bx 1,bx 2,by_ 0,by_ 1⟩
theorem InBox.below{C:Nat}(h:InBox w B x0 x1 x2 y0 y1)(hb:Below C w w')(hC:B+1<C):InBox w' B x0 x1 x2 y0 y1:=
 ⟨Nt h.lt hb.size,(hb.cell (p:=⟨B,0,none⟩) (Ns hC)).trans h.f0,(hb.cell (p:=⟨B,1,none⟩) (Ns hC)).trans h.f1,(hb.cell (p:=⟨B,2,none⟩) (Ns hC)).trans h.f2,(hb.cell (p:=⟨B+1,0,none⟩) hC).trans h.i0,(hb.cell (p:=⟨B+1,1,none⟩) hC).trans h.i1⟩
theorem InBox.all(h:InBox w B x0 x1 x2 y0 y1):B<w.heap.size∧B+1<w.heap.size∧w.cell? ⟨B,0,none⟩=some x0∧w.cell? ⟨B,1,none⟩=some x1∧w.cell? ⟨B,2,none⟩=some x2∧w.cell? ⟨B+1,0,none⟩=some y0∧w.cell? ⟨B+1,1,none⟩=some y1:=
 ⟨Ns h.lt,h.lt,h.f0,h.f1,h.f2,h.i0,h.i1⟩
end
theorem Yoe(n:Nat):wrap64 (Int.tmod (n:Int) 501)=((n%501:Nat):Int)∧Int.tmod (n:Int) 501=((n%501:Nat):Int):=by
 rw[Int.tmod_eq_emod_of_nonneg (Int.natCast_nonneg n)];refine⟨?_,ZO⟩;unfold wrap64;omega
theorem Yi4{F:PFunc}(h:Yab F=true):F.vars.length≤512:=by
 unfold Yab at h;simp only[Bool.and_eq_true,decide_eq_true_eq]at h;exact h.1.1.1.1.1.1.2
end Go.Proofs.YthhjlbflpjhahaaGreatDoor
