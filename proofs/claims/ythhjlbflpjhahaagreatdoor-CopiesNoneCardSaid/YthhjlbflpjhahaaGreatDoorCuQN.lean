/- The walk of the law's Single: is a program single, by the document? -/
import Derived.Test.YthhjlbflpjhahaaGreatDoorSRefN
import Derived.Test.YthhjlbflpjhahaaGreatDoorGraphN
import Derived.Test.YthhjlbflpjhahaaGreatDoorFewQN
import Derived.Test.YthhjlbflpjhahaaGreatDoorSRightN
import Derived.Test.YthhjlbflpjhahaaGreatDoorCqQN
import Derived.Test.YthhjlbflpjhahaaGreatDoorCrQN
import Derived.Test.YthhjlbflpjhahaaGreatDoorSameN
import Derived.Test.YthhjlbflpjhahaaGreatDoorUniN
import Derived.Test.YthhjlbflpjhahaaGreatDoorCards
import Derived.ProofKit
namespace Go.Proofs.YthhjlbflpjhahaaGreatDoor
open Go.RowKit
set_option maxRecDepth 100000
theorem Yhq{W w:World}{fv:Value}{F:PFunc}(hU:Uni W)(hF:FnV W W.heap.size fv F)(hW:Below W.heap.size W w) :
 Calls Tryz.prog 21 #[fv] w fun e w'=>e=.returned (.bool (YaC F&&singleB F))∧Below w.heap.size w w':=by
 have hty:=fun(w:World) (h:Below W.heap.size W w)=>Ygr hU hF h
 have hWs:=hW.size;obtain⟨A0,c0,A1,c1,A2,c2,rfl,-⟩:=id hF.open_;cases hx:YaC F
 · rw[hx]at hty
   clear hx;go_enter Tryz.func21,Tryz.ntmps21;go_wp2_with fail;refine(hty _ (by(focus repeat(first|assumption|exact Br _ _|refine Below.drew ?_|refine Below.alloc ?_ (by first|omega|exact Below.size ZA|(simp;done)|(simp;omega)) _|(refine Below.trans ?_ (Below.mono ZA ?_);rotate_left;exact(by first|omega|exact Below.size ZA|(simp;done)|(simp;omega))))))).mono ?_;(rintro e w1 ⟨rfl,hb1⟩;obtain⟨hc1,hf1⟩:=Ya hb1;have hz1:=hb1.size;try simp at hz1;try have hy1:=Nl hz1;try have hx1:=Ns hy1;try have hw1:=Ns hx1);go_wp2;go_ret;exact⟨rfl,by(focus repeat(first|assumption|exact Br _ _|refine Below.drew ?_|refine Below.alloc ?_ (by first|omega|exact Below.size ZA|(simp;done)|(simp;omega)) _|(refine Below.trans ?_ (Below.mono ZA ?_);rotate_left;exact(by first|omega|exact Below.size ZA|(simp;done)|(simp;omega)))))⟩
 · rw[hx]at hty
   have hT:Yc F=true:=by unfold YaC at hx;rw[Bool.and_eq_true]at hx;exact hx.2
   have hs:=fun(w:World) (h:Below W.heap.size W w)=>Yhp hF h hT
   rw[YgL hT]at hs;clear hx hT;generalize singleB F=X at *;go_enter Tryz.func21,Tryz.ntmps21;go_wp2_with fail;refine(hty _ (by(focus repeat(first|assumption|exact Br _ _|refine Below.drew ?_|refine Below.alloc ?_ (by first|omega|exact Below.size ZA|(simp;done)|(simp;omega)) _|(refine Below.trans ?_ (Below.mono ZA ?_);rotate_left;exact(by first|omega|exact Below.size ZA|(simp;done)|(simp;omega))))))).mono ?_;(rintro e w1 ⟨rfl,hb1⟩;obtain⟨hc1,hf1⟩:=Ya hb1;have hz1:=hb1.size;try simp at hz1;try have hy1:=Nl hz1;try have hx1:=Ns hy1;try have hw1:=Ns hx1);go_wp2_with fail;refine(hs _ (by(focus repeat(first|assumption|exact Br _ _|refine Below.drew ?_|refine Below.alloc ?_ (by first|omega|exact Below.size ZA|(simp;done)|(simp;omega)) _|(refine Below.trans ?_ (Below.mono ZA ?_);rotate_left;exact(by first|omega|exact Below.size ZA|(simp;done)|(simp;omega))))))).mono ?_;(rintro e w2 ⟨rfl,hb2⟩;obtain⟨hc2,hf2⟩:=Ya hb2;have hz2:=hb2.size;try simp at hz2;try have hy2:=Nl hz2;try have hx2:=Ns hy2;try have hw2:=Ns hx2);go_wp2;go_ret;exact⟨rfl,by(focus repeat(first|assumption|exact Br _ _|refine Below.drew ?_|refine Below.alloc ?_ (by first|omega|exact Below.size ZA|(simp;done)|(simp;omega)) _|(refine Below.trans ?_ (Below.mono ZA ?_);rotate_left;exact(by first|omega|exact Below.size ZA|(simp;done)|(simp;omega)))))⟩
def Ycf(b:PBlock):Bool:=b.insts.all fun x=>decide (x.op<25)
theorem Yms{F:PFunc}{i:Nat}(hi:i<F.blocks.length)(h:Ycf (F.blk i)=false):noPi F=false:=by
 rw[← Bool.not_eq_true];intro hh;unfold noPi at hh;rw[List.all_eq_true]at hh;have:=hh _ (YG hi);unfold Ycf at h;rw[h]at this;cases this
theorem Ymt{F:PFunc}(h:∀i,i<F.blocks.length→Ycf (F.blk i)=true):noPi F=true:=by
 unfold noPi;rw[List.all_eq_true];intro b hb;obtain⟨i,hi,rfl⟩:=List.getElem_of_mem hb;have:=h i hi
 rwa [PFunc.blk,YC hi]at this
set_option maxHeartbeats 4000000 in
theorem Ymu{W w:World}{fv:Value}{F:PFunc}(hF:FnV W W.heap.size fv F)(hW:Below W.heap.size W w)(hT:Yc F=true) :
 Calls Tryz.prog 58 #[fv] w fun e w'=>e=.returned (.bool (Ycc F))∧Below w.heap.size w w':=by
 have hs:=fun(w':World) (h:Below W.heap.size W w')=>Yhp hF h hT
 have hWs:=hW.size;obtain⟨n1,n2⟩:=Yaa (Yv hT);have HTP:=Lh (fun n (hn:n<F.blocks.length)=>YdB hT hn);obtain⟨A0,c0,A1,c1,A2,c2,rfl,l0,l1,l2,-,-,-,r0,r1,r2⟩:=id hF.open_;unfold Len at *;have hb0:=(Br w.heap.size w).alloc (Nr _) (.cells #[.slice A0 F.vars.length c0,.slice A1 F.params.length c1,.slice A2 F.blocks.length c2] 26);have HNO:=Lh (fun(h:noPi F=false)=>show Ycc F=false by rw[Ycc,h];rfl);have HYE:=Lh (fun(h:noPi F=true)=>show Ycc F=YaV F by rw[Ycc,h];rfl);clear hT;go_enter Tryz.func58,Tryz.ntmps58;go_wp2
 go_loopw[10] (fun x wr=>∃n:Nat,x=.int .i64 n∧n≤F.blocks.length∧Hid (∀m,m<n→Ycf (F.blk m)=true)∧Below (w.heap.size+1) (w.alloc (.cells #[.slice A0 F.vars.length c0,.slice A1 F.params.length c1,.slice A2 F.blocks.length c2] 26)) wr) (fun x _=>F.blocks.length-(intOf x).toNat)
 case atStart=>exact⟨0,rfl,Nz _,fun m hm=>absurd hm (Nat.not_lt_zero _),Br _ _⟩
 case round=>as_aux_lemma=>
  obtain⟨n,rfl,hn,HA,hb⟩:=hrel;have hB:=hb0.trans (hb.mono (Nat.le_succ _));have hWr:Below W.heap.size W wr:=hW.trans (hB.mono hWs)
  by_cases hlt:n<F.blocks.length
  · obtain⟨bb,off,A3,c3,A4,c4,rfl,hbb,hnz,hy0,hy1,hy2,hy3,hy4,hy5,hy6,l3,l4,k3,k4,r3,r4⟩:=r2.blk hWr hlt
    have hpt:=HTP.out n hlt;unfold Len at l3 l4;have HNB:=Lh (fun h=>HNO.out (Yms hlt h));have hws:w.heap.size+1≤wr.heap.size:=by have:=hb.size;simpa using this
    obtain⟨wq,rfl⟩:∃wq:World,wq=wr:=⟨_,rfl⟩;go_wp2
    go_loopw[17] (fun x wr=>∃k:Nat,x=.int .i64 k∧k≤(F.blk n).insts.length∧Hid (∀j,j<k→((F.blk n).inst j).op<25)∧Below wq.heap.size wq wr) (fun x _=>(F.blk n).insts.length-(intOf x).toNat)
    case atStart=>exact⟨0,rfl,Nz _,fun m hm=>absurd hm (Nat.not_lt_zero _),by(focus repeat(first|assumption|exact Br _ _|refine Below.drew ?_|refine Below.alloc ?_ (by first|omega|exact Below.size ZA|(simp;done)|(simp;omega)) _|(refine Below.trans ?_ (Below.mono ZA ?_);rotate_left;exact(by first|omega|exact Below.size ZA|(simp;done)|(simp;omega)))))⟩
    case round=>as_aux_lemma=>
     obtain⟨k,rfl,hk,HK,hbk⟩:=hrel;have hBr:Below w.heap.size w wr:=hB.trans (hbk.mono hB.size);have hWi:Below W.heap.size W wr:=hW.trans (hBr.mono hWs)
     by_cases hkl:k<(F.blk n).insts.length
     · obtain⟨bp,op,A6,c6,rfl,hbp,hp0,hp1,hp2,hp3,l6,k6,-⟩:=r4.inst hWi hkl
       unfold Len at l6;clear hy0 hy1 hy2 hy3 hy4 hy5 hy6 hnz
       by_cases h25:25≤((F.blk n).inst k).op
       · have HF:=Lh (HNB.out (by
          unfold Ycf;rw[← Bool.not_eq_true,List.all_eq_true];intro hh;have:=of_decide_eq_true (hh _ (Ybe hkl))
          omega))
         go_wp2;go_ret;exact⟨Yb HF.out.symm,by(focus repeat(first|assumption|exact Br _ _|refine Below.drew ?_|refine Below.alloc ?_ (by first|omega|exact Below.size ZA|(simp;done)|(simp;omega)) _|(refine Below.trans ?_ (Below.mono ZA ?_);rotate_left;exact(by first|omega|exact Below.size ZA|(simp;done)|(simp;omega)))))⟩
       · have HE:=Lh (show((F.blk n).inst k).op<25 from ZO)
         go_wp2;go_roundw
         case rel=>exact⟨k+1,ZN,ZO,fun t ht=>if h:t<k then HK.out t h else by
          obtain rfl:t=k:=by omega
          exact HE.out,by(focus repeat(first|assumption|exact Br _ _|refine Below.drew ?_|refine Below.alloc ?_ (by first|omega|exact Below.size ZA|(simp;done)|(simp;omega)) _|(refine Below.trans ?_ (Below.mono ZA ?_);rotate_left;exact(by first|omega|exact Below.size ZA|(simp;done)|(simp;omega)))))⟩
         case measure=>simp[intOf];omega
     · obtain rfl:k=(F.blk n).insts.length:=by omega
       have HOK:=Lh (show Ycf (F.blk n)=true by
        unfold Ycf;rw[List.all_eq_true];intro x hx;obtain⟨j,hj,rfl⟩:=List.getElem_of_mem hx;have:=HK.out j hj;rw[PBlock.inst,YC hj]at this
        exact decide_eq_true this)
       go_wp2;go_roundw
       case rel=>exact⟨n+1,ZN,ZO,fun t ht=>if h:t<n then HA.out t h else by
        obtain rfl:t=n:=by omega
        exact HOK.out,hb.trans (hbk.mono hws)⟩
       case measure=>simp[intOf];omega
  · obtain rfl:n=F.blocks.length:=by omega
    have HF:=Lh (HYE.out (Ymt HA.out));obtain⟨q,q0,q1,q2⟩:=Ym hb;have hs':=hs wr hWr;rw[← HF.out]at hs';go_wp2_with fail;refine hs'.mono ?_;rintro e w9 ⟨rfl,hb9⟩;go_wp2;go_ret;exact⟨rfl,hB.trans (hb9.mono hB.size)⟩
theorem Yhr{W w:World}{fv:Value}{F:PFunc}(hU:Uni W)(hF:FnV W W.heap.size fv F)(hW:Below W.heap.size W w) :
 Calls Tryz.prog 31 #[fv] w fun e w'=>e=.returned (.bool (YaC F&&YbT F))∧Below w.heap.size w w':=by
 have hty:=fun(w:World) (h:Below W.heap.size W w)=>Ygr hU hF h
 have hWs:=hW.size;obtain⟨A0,c0,A1,c1,A2,c2,rfl,-⟩:=id hF.open_;cases hx:YaC F
 · rw[hx]at hty
   clear hx;go_enter Tryz.func31,Tryz.ntmps31;go_wp2_with fail;refine(hty _ (by(focus repeat(first|assumption|exact Br _ _|refine Below.drew ?_|refine Below.alloc ?_ (by first|omega|exact Below.size ZA|(simp;done)|(simp;omega)) _|(refine Below.trans ?_ (Below.mono ZA ?_);rotate_left;exact(by first|omega|exact Below.size ZA|(simp;done)|(simp;omega))))))).mono ?_;(rintro e w1 ⟨rfl,hb1⟩;obtain⟨hc1,hf1⟩:=Ya hb1;have hz1:=hb1.size;try simp at hz1;try have hy1:=Nl hz1;try have hx1:=Ns hy1;try have hw1:=Ns hx1);go_wp2;go_ret;exact⟨rfl,by(focus repeat(first|assumption|exact Br _ _|refine Below.drew ?_|refine Below.alloc ?_ (by first|omega|exact Below.size ZA|(simp;done)|(simp;omega)) _|(refine Below.trans ?_ (Below.mono ZA ?_);rotate_left;exact(by first|omega|exact Below.size ZA|(simp;done)|(simp;omega)))))⟩
 · rw[hx]at hty
   have hT:Yc F=true:=by unfold YaC at hx;rw[Bool.and_eq_true]at hx;exact hx.2
   have hs:=fun(w:World) (h:Below W.heap.size W w)=>Ymu hF h hT
   rw[YkT hT]at hs;clear hx hT;generalize YbT F=X at *;go_enter Tryz.func31,Tryz.ntmps31;go_wp2_with fail;refine(hty _ (by(focus repeat(first|assumption|exact Br _ _|refine Below.drew ?_|refine Below.alloc ?_ (by first|omega|exact Below.size ZA|(simp;done)|(simp;omega)) _|(refine Below.trans ?_ (Below.mono ZA ?_);rotate_left;exact(by first|omega|exact Below.size ZA|(simp;done)|(simp;omega))))))).mono ?_;(rintro e w1 ⟨rfl,hb1⟩;obtain⟨hc1,hf1⟩:=Ya hb1;have hz1:=hb1.size;try simp at hz1;try have hy1:=Nl hz1;try have hx1:=Ns hy1;try have hw1:=Ns hx1);go_wp2_with fail;refine(hs _ (by(focus repeat(first|assumption|exact Br _ _|refine Below.drew ?_|refine Below.alloc ?_ (by first|omega|exact Below.size ZA|(simp;done)|(simp;omega)) _|(refine Below.trans ?_ (Below.mono ZA ?_);rotate_left;exact(by first|omega|exact Below.size ZA|(simp;done)|(simp;omega))))))).mono ?_;(rintro e w2 ⟨rfl,hb2⟩;obtain⟨hc2,hf2⟩:=Ya hb2;have hz2:=hb2.size;try simp at hz2;try have hy2:=Nl hz2;try have hx2:=Ns hy2;try have hw2:=Ns hx2);go_wp2;go_ret;exact⟨rfl,by(focus repeat(first|assumption|exact Br _ _|refine Below.drew ?_|refine Below.alloc ?_ (by first|omega|exact Below.size ZA|(simp;done)|(simp;omega)) _|(refine Below.trans ?_ (Below.mono ZA ?_);rotate_left;exact(by first|omega|exact Below.size ZA|(simp;done)|(simp;omega)))))⟩
structure Ymv (G:PFunc):Prop where
 few:Yr G=true
 typed:Yc G=true
 single:singleB G=true
 cp:∀b∈G.blocks,∀x∈b.insts,isCp x=false
 ph:∀b∈G.blocks,∀p∈b.phis,∃u∈p.args,∃v∈p.args,u≠p.dst∧v≠p.dst∧u≠v
 again:∀m r,YcD G m r→clF m G=G
theorem Ymw{F:PFunc}{m:Int→Int}{r:List Int}(hf:Yr F=true)(hT:Yc F=true)(hS:singleB F=true)(h:YcD F m r):Ymv (clF m F)∧(YbT F=true→YbT (clF m F)=true):=by
 have S:=Sgl.of hT hS;have S':=Yg7 S h.c S.cpH;refine⟨⟨by rw[Ye1];exact Yld hf,S'.T,S'.singleB,Yg8 h.n,Yg9 S h.c h.e,fun m' r' h'=>Ylj S h.c h.e h.n h'.c h'.e⟩,fun hp=>?_⟩;unfold YbT at *;rw[Bool.and_eq_true]at *;exact⟨S'.singleB,by rw[Ye1];exact Yk6 hp.2⟩
def YcG(x:Int)(l L:List Int):Prop:=∀a∈l,a=x∨a∈L
theorem Ymx{x:Int}{l L:List Int}(h:YcG x l L)(h2:∃u∈l,∃v∈l,u≠x∧v≠x∧u≠v):2≤L.length:=by
 obtain⟨u,hu,v,hv,h3,h4,h5⟩:=h2;have h6:=(h u hu).resolve_left h3;have h7:=(h v hv).resolve_left h4
 match L,h6,h7 with
 |[],h6,_=>cases h6
 |[a],h6,h7=>
  rw[List.mem_singleton]at h6 h7;exact absurd (h6.trans h7.symm) h5
 |_::_::_,_,_=>simp
theorem Yhs{l:List Int}{k:Nat}(h:k<l.length):l.take (k+1)=l.take k++[ith l k]:=by
 rw[List.take_add_one,Yae h];rfl
theorem Ymy{x:Int}{l L:List Int}{k:Nat}(h:YcG x (l.take k) L)(hk:k<l.length)(hs:ith l k=x∨ith l k∈l.take k):YcG x (l.take (k+1)) L:=fun a ha=>by
 rw[Yhs hk]at ha;rcases List.mem_append.1 ha with ha|ha
 · exact h a ha
 · rw[List.mem_singleton]at ha
   subst ha;rcases hs with hs|hs
   · exact .inl hs
   · exact h _ hs
theorem Ymz{x:Int}{l L:List Int}{k:Nat}(h:YcG x (l.take k) L)(hk:k<l.length):YcG x (l.take (k+1)) (ith l k::L):=fun a ha=>by
 rw[Yhs hk]at ha;rcases List.mem_append.1 ha with ha|ha
 · exact(h a ha).imp id fun h=>List.mem_cons_of_mem _ h
 · rw[List.mem_singleton]at ha
   exact .inr (by rw[ha];exact List.mem_cons_self ..)
set_option maxHeartbeats 16000000 in
theorem YmA{W:World}{fv:Value}{F:PFunc}(hU:Uni W)(hF:FnV W W.heap.size fv F) :
 Calls Tryz.prog 7 #[fv] W fun e w'=>e=.returned (.bool true)∧Below W.heap.size W w':=by
 have hlv:=fun(w:World) (h:Below W.heap.size W w)=>Yme hU h
 have hsg:=fun(w:World) (h:Below W.heap.size W w)=>Yhq hU hF h
 obtain⟨w,rfl⟩:∃w:World,w=W:=⟨_,rfl⟩;obtain⟨A0,c0,A1,c1,A2,c2,rfl,l0,l1,l2,-,-,-,r0,r1,r2⟩:=id hF.open_;unfold Len at *;clear r0 r1 r2;have hb0:=(Br w.heap.size w).alloc (Nr _) (.cells #[.slice A0 F.vars.length c0,.slice A1 F.params.length c1,.slice A2 F.blocks.length c2] 26);have HX0:=Lh (BoxAt.new w #[.slice A0 F.vars.length c0,.slice A1 F.params.length c1,.slice A2 F.blocks.length c2] 26);cases hx:(YaC F&&singleB F)
 · as_aux_lemma=>
   rw[hx]at hsg;clear hx hF;go_enter Tryz.func7,Tryz.ntmps7;go_wp2_with fail;refine(hlv _ hb0).mono ?_;rintro e w1 ⟨rfl,hb1⟩;have hx1:=HX0.out.below hb1 HX0.out.lt;have hB1:=hb0.trans (hb1.mono hb0.size);have q0:=hx1.cell 0;have q1:=hx1.cell 1;have q2:=hx1.cell 2;have ql:=hx1.lt;simp at q0 q1 q2;go_wp2_with fail;refine(hsg _ hB1).mono ?_;rintro e w2 ⟨rfl,hb2⟩;have hB2:=hB1.trans (hb2.mono hB1.size);clear q0 q1 q2 ql;go_wp2_with fail;refine(hlv _ hB2).mono ?_;rintro e w3 ⟨rfl,hb3⟩;have hB3:=hB2.trans (hb3.mono hB2.size);go_wp2;go_ret;exact⟨rfl,hB3⟩
 as_aux_lemma=>
 have hx2:YaC F=true∧singleB F=true:=by simpa using hx
 have hx3:Yr F=true∧Yc F=true:=by have:=hx2.1;unfold YaC at this;simpa using this
 have hS:=YcA hx3.1;have hBn:=Ydd hx3.1;have hR:YR F=true:=by rw[YR,hx3.2,hx2.2];rfl
 have hv512:F.vars.length≤100:=by
  have:=hx3.1;unfold Yr at this;simp only[Bool.and_eq_true,decide_eq_true_eq]at this;exact this.1.1.1.1
 have hcl:=fun(w':World) (h:Below w.heap.size w w')=>Yfi hU hF h hS hBn hR ZO
 have hpl:=fun(w':World) (h:Below w.heap.size w w')=>Yhr hU hF h
 rw[hx]at hsg;rw[hx2.1,Bool.true_and]at hpl;have HPL:=Lh hpl;have HX3:=Lh hx3;have HX2:=Lh hx2;have HU:=Lh hU;clear hx hF hS hBn hx2 hx3 hR hU hpl;go_enter Tryz.func7,Tryz.ntmps7;go_wp2_with fail;refine(hlv _ hb0).mono ?_;rintro e w1 ⟨rfl,hb1⟩;have hx1:=HX0.out.below hb1 HX0.out.lt;have hB1:=hb0.trans (hb1.mono hb0.size);have q0:=hx1.cell 0;have q1:=hx1.cell 1;have q2:=hx1.cell 2;have ql:=hx1.lt;simp at q0 q1 q2;go_wp2_with fail;refine(hsg _ hB1).mono ?_;rintro e w2 ⟨rfl,hb2⟩;have hx2:=hx1.below hb2 hx1.lt;have hB2:=hB1.trans (hb2.mono hB1.size);clear q0 q1 q2 ql;have q0:=hx2.cell 0;have q1:=hx2.cell 1;have q2:=hx2.cell 2;have ql:=hx2.lt;simp at q0 q1 q2;clear hb1 hb2 hx1 hB1 hlv hsg;go_wp2_with fail;refine(hcl _ hB2).mono ?_;rintro e w5 ⟨⟨gv,m,fr,rfl,hG,hgn⟩,hb5⟩;have HLN:=Lh (show(clF m F).vars.length=F.vars.length from rfl);obtain⟨HC,hplG⟩:=Ymw HX3.out.1 HX3.out.2 HX2.out.2 hgn;generalize clF m F=G at hG HC hplG HLN ⊢;have HCL:=Lh HC;obtain⟨B0,d0,B1,d1,B2,d2,rfl,m0,m1,m2,-,-,-,s0,s1,s2⟩:=id hG.open_;unfold Len at m0 m1 m2;obtain⟨w6,hw6⟩:∃w6:World,w6=w5.alloc (.cells #[.slice B0 G.vars.length d0,.slice B1 G.params.length d1,.slice B2 G.blocks.length d2] 26):=⟨_,rfl⟩;have hb6:Below w5.heap.size w5 w6:=by rw[hw6];exact YaP _ _
 have hg6:BoxAt w6 w5.heap.size #[.slice B0 G.vars.length d0,.slice B1 G.params.length d1,.slice B2 G.blocks.length d2] 26:=by rw[hw6];exact BoxAt.new _ _ _
 have hB5:=hB2.trans (hb5.mono hB2.size);have hx5:=hx2.below hb5 hx2.lt;have hx6:=hx5.below hb6 hx5.lt;have hU5:=HU.out.below hB5;have hGR:YR G=true:=by rw[YR,HCL.out.typed,HCL.out.single];rfl
 have hlT:YaC G=true:=by rw[YaC,HCL.out.few,HCL.out.typed];rfl
 have hty:=fun(w':World) (h:Below w5.heap.size w5 w')=>Ygq hU5 hG h (YcA HCL.out.few)
 have hsg:=fun(w':World) (h:Below w5.heap.size w5 w')=>Yhq hU5 hG h
 have hpg:=fun(w':World) (h:Below w5.heap.size w5 w')=>Yhr hU5 hG h
 have HC2:=Lh (fun(w':World) (h:Below w5.heap.size w5 w')=>Yfi hU5 hG h (YcA HCL.out.few) (Ydd HCL.out.few) hGR (by rw[HLN.out];omega));have HSM:=Lh (fun(w' w'':World) (gv':Value) (h:Below w5.heap.size w5 w') (hG':FnV w' w'.heap.size gv' G) (h2:Below w'.heap.size w' w'')=>Ymf (hG.keep (Kept.of_below h) h.size) hG' h2);rw[HCL.out.typed]at hty;rw[hlT,HCL.out.single]at hsg;rw[hlT,Bool.true_and]at hpg;have HTY:=Lh hty;have HSG:=Lh hsg;have HPG:=Lh hpg;have HB5:=Lh hB5;have HX6:=Lh hx6;have HG6:=Lh hg6;have HB6:=Lh hb6;have HPP:=Lh hplG;have HBN:=Lh (Ydd HCL.out.few);obtain⟨n1,n2⟩:=Yaa (Yv HCL.out.typed);clear hcl hty hsg hpg hB5 hx5 hx6 hg6 hb6 hb5 hG hgn hU5 hGR hlT s0 s1 hplG HC q0 q1 q2 ql hx2 hB2
 go_upto_region 4 with fail
 go_loud (rw[← hw6])
 clear hw6;obtain⟨Y,hY⟩:∃Y,YbT F=Y:=⟨_,rfl⟩;have HY:=Lh hY;clear hY;have q0:=HX6.out.cell 0;have q1:=HX6.out.cell 1;have q2:=HX6.out.cell 2;have ql:=HX6.out.lt;have g0:=HG6.out.cell 0;have g1:=HG6.out.cell 1;have g2:=HG6.out.cell 2;have gl:=HG6.out.lt;simp at q0 q1 q2;simp at g0 g1 g2
 go_cut[51] (fun s wx=>s=.bool false∧Below w6.heap.size w6 wx)
 case first=>as_aux_lemma=>
  go_wp2_with fail;refine(HTY.out _ HB6.out).mono ?_;rintro e w7 ⟨rfl,hb7⟩;have hx7:=HX6.out.below hb7 HX6.out.lt;have hg7:=HG6.out.below hb7 HG6.out.lt;have hw7:=HB6.out.trans (hb7.mono HB6.out.size);clear q0 q1 q2 ql g0 g1 g2 gl;have g0:=hg7.cell 0;have g1:=hg7.cell 1;have g2:=hg7.cell 2;have gl:=hg7.lt;simp at g0 g1 g2;go_wp2_with fail;refine(HSG.out _ hw7).mono ?_;rintro e w8 ⟨rfl,hb8⟩;have hx8:=hx7.below hb8 hx7.lt;have hg8:=hg7.below hb8 hg7.lt;have hw8:=hw7.trans (hb8.mono hw7.size);have hb78:=hb7.trans (hb8.mono hb7.size);clear g0 g1 g2 gl;have q0:=hx8.cell 0;have q1:=hx8.cell 1;have q2:=hx8.cell 2;have ql:=hx8.lt;simp at q0 q1 q2;go_wp2_with fail;refine(HPL.out _ (HB5.out.trans (hw8.mono HB5.out.size))).mono ?_;rintro e w9 ⟨rfl,hb9⟩;have hg9:=hg8.below hb9 hg8.lt;have hw9:=hw8.trans (hb9.mono hw8.size);have hb79:=hb78.trans (hb9.mono hb78.size);clear q0 q1 q2 ql;have g0:=hg9.cell 0;have g1:=hg9.cell 1;have g2:=hg9.cell 2;have gl:=hg9.lt;simp at g0 g1 g2;rw[HY.out];cases Y
  · as_aux_lemma=>
    go_wp2_with fail
    go_meet
    exact⟨rfl,hb79⟩
  · as_aux_lemma=>
    have hpg:=HPG.out w9 hw9;rw[HPP.out HY.out]at hpg;go_wp2_with fail;refine hpg.mono ?_;rintro e wa ⟨rfl,hba⟩;go_wp2_with fail
    go_meet
    exact⟨rfl,hb79.trans (hba.mono hb79.size)⟩
 case rest=>as_aux_lemma=>
  obtain⟨rfl,hbx⟩:=hcut;have hgx:=HG6.out.below hbx HG6.out.lt;have HGX:=Lh hgx;have HWX:=Lh (HB6.out.trans (hbx.mono HB6.out.size));have HR2:=Lh s2;clear q0 q1 q2 ql g0 g1 g2 gl hbx hgx HTY HSG HPG HPL HPP HX6 HG6 HB6 s2;have g2:=HGX.out.cell 2;have gl:=HGX.out.lt;simp at g2;go_wp2_with fail;clear g2 gl;have hsx:w5.heap.size≤wc.heap.size:=HWX.out.size
  go_loopw[55] (fun x wr=>∃n:Nat,x=.int .i64 n∧n≤G.blocks.length∧Below wc.heap.size wc wr) (fun x _=>G.blocks.length-(intOf x).toNat)
  case atStart=>exact⟨0,rfl,Nz _,Br _ _⟩
  case round=>as_aux_lemma=>
   obtain⟨n,rfl,hn,hb⟩:=hrel;have hWr:=HWX.out.trans (hb.mono HWX.out.size)
   by_cases hlt:n<G.blocks.length
   · as_aux_lemma=>
     obtain⟨bb,off,A3,c3,A4,c4,rfl,hbb,hnz,hy0,hy1,hy2,hy3,hy4,hy5,hy6,l3,l4,k3,k4,r3,r4⟩:=HR2.out.blk hWr hlt;have hpn:=HBN.out.parts _ (YG hlt);have HMB:=Lh (YG hlt);obtain⟨wq,rfl⟩:∃wq:World,wq=wr:=⟨_,rfl⟩;obtain⟨w7,hw7⟩:∃w7:World,w7=wq.alloc (.cells #[.string (G.blk n).name,.slice A3 (G.blk n).phis.length c3,.slice A4 (G.blk n).insts.length c4,.int .i64 (G.blk n).term.kind,.int .i64 (G.blk n).term.var,.int .i64 (G.blk n).term.t0,.int .i64 (G.blk n).term.t1] 62):=⟨_,rfl⟩;have hb7:Below wq.heap.size wq w7:=by rw[hw7];exact YaP _ _
     have hx7:BoxAt w7 wq.heap.size #[.string (G.blk n).name,.slice A3 (G.blk n).phis.length c3,.slice A4 (G.blk n).insts.length c4,.int .i64 (G.blk n).term.kind,.int .i64 (G.blk n).term.var,.int .i64 (G.blk n).term.t0,.int .i64 (G.blk n).term.t1] 62:=by rw[hw7];exact BoxAt.new _ _ _
     have HX7:=Lh hx7;have HB7:=Lh (hb.trans (hb7.mono hb.size));have HW7:=Lh (hWr.trans (hb7.mono hWr.size))
     go_upto_region 9 with fail
     go_loud (rw[← hw7])
     clear hw7 hb7 hx7 hy0 hy1 hy2 hy3 hy4 hy5 hy6 hb hWr;have p1:=HX7.out.cell 1;have pl:=HX7.out.lt;simp at p1;go_wp2_with fail;clear p1 pl
     go_loopw[62] (fun x wr=>∃k:Nat,x=.int .i64 k∧k≤(G.blk n).phis.length∧Below w7.heap.size w7 wr) (fun x _=>(G.blk n).phis.length-(intOf x).toNat)
     case atStart=>exact⟨0,rfl,Nz _,Br _ _⟩
     case round=>as_aux_lemma=>
      obtain⟨k,rfl,hk,hb⟩:=hrel;have hWr:=HW7.out.trans (hb.mono HW7.out.size)
      by_cases hkl:k<(G.blk n).phis.length
      · as_aux_lemma=>
        obtain⟨bp,op,A5,c5,A6,c6,rfl,hbp,hp0,hp1,hp2,l5,l6,k5,k6,r5,r6⟩:=r3.phi hWr hkl;have HTW:=Lh (HCL.out.ph _ HMB.out _ (YaH hkl));have hal:=(HBN.out.pairs _ HMB.out _ (YaH hkl)).1;generalize (G.blk n).phi k=ph at *;obtain⟨ws,rfl⟩:∃ws:World,ws=wr:=⟨_,rfl⟩;obtain⟨w8,hw8⟩:∃w8:World,w8=ws.alloc (.cells #[.int .i64 ph.dst,.slice A5 ph.args.length c5,.slice A6 ph.froms.length c6] 64):=⟨_,rfl⟩;have hb8:Below ws.heap.size ws w8:=by rw[hw8];exact YaP _ _
        have hx8:BoxAt w8 ws.heap.size #[.int .i64 ph.dst,.slice A5 ph.args.length c5,.slice A6 ph.froms.length c6] 64:=by rw[hw8];exact BoxAt.new _ _ _
        have HB8:=Lh (hb.trans (hb8.mono hb.size));have hW8:=hWr.trans (hb8.mono hWr.size)
        go_upto_region 12 with fail
        go_loud (rw[← hw8])
        clear hw8 hb8 hp0 hp1 hp2 hb hWr r6;have p0:=hx8.cell 0;have p1:=hx8.cell 1;have pl:=hx8.lt;simp at p0 p1;go_wp2_with fail
        go_loopw[9,69] (fun o x wr=>∃(j:Nat) (L:List Int),x=.int .i64 j∧o=.int .i64 (L.length:Nat)∧j≤ph.args.length∧Hid (YcG ph.dst (ph.args.take j) L)∧L.length≤j∧wr=w8) (fun _ x _=>ph.args.length-(intOf x).toNat)
        case atStart=>exact⟨0,[],rfl,rfl,Nz _,(fun a ha=>by cases ha),Nr _,rfl⟩
        case round=>as_aux_lemma=>
         obtain⟨j,L,rfl,rfl,hj,HCV,hLj,hwr⟩:=hrel;subst hwr;obtain⟨wu,rfl⟩:∃wu:World,wu=wr:=⟨_,rfl⟩
         by_cases hjl:j<ph.args.length
         · as_aux_lemma=>
           obtain⟨ba,oa,rfl,hba,hca⟩:=r5.int hW8 hjl;have HR5:=Lh (fun i (hi:i<ph.args.length)=>r5.int hW8 hi)
           have HIT:=Lh (fun i (hi:i<j)=>(show ith ph.args i∈ph.args.take j by
            have h1:i<(ph.args.take j).length:=by rw[List.length_take];omega
            have h2:=List.getElem_mem h1;rw[List.getElem_take]at h2;have h3:ith ph.args i=ph.args[i]'(ZO):=by simp[ith,List.getD,show i<ph.args.length from ZO]
            rw[h3]
            exact h2))
           obtain⟨a,haj⟩:∃a,ith ph.args j=a:=⟨_,rfl⟩;have HSE:=Lh (fun(hs:a=ph.dst∨a∈ph.args.take j)=>Ymy HCV.out hjl (by rw[haj];exact hs));have HNE:=Lh (Ymz HCV.out hjl);rw[haj]at hca;unfold Hid at HNE;rw[haj]at HNE;replace HNE:=Lh HNE;clear haj;obtain⟨sb,hsb⟩:∃sb:Bool,(a==ph.dst)=sb:=⟨_,rfl⟩;have HS0:=Lh (show sb=true→a=ph.dst∨a∈ph.args.take j from fun h=>.inl (by rw[h]at hsb;simpa using hsb));go_wp2_with fail
           go_loopw[12,79] (fun s x wr=>∃(i:Nat) (b:Bool),x=.int .i64 i∧s=.bool b∧i≤j∧Hid (b=true→a=ph.dst∨a∈ph.args.take j)∧wr=wu) (fun _ x _=>j-(intOf x).toNat)
           case atStart=>exact⟨0,sb,rfl,rfl,Nz _,HS0.out,rfl⟩
           case round=>as_aux_lemma=>
            clear HS0 hsb;obtain⟨i,b,rfl,rfl,hi,HBB,hwr⟩:=hrel;subst hwr
            by_cases hil:i<j
            · as_aux_lemma=>
              cases b
              · as_aux_lemma=>
                have hij:i<ph.args.length:=by omega
                obtain⟨ba',oa',e,-,hci⟩:=HR5.out i hij;cases e;obtain⟨s2,hs2⟩:∃s2:Bool,(ith ph.args i==a)=s2:=⟨_,rfl⟩
                have HS2:=Lh (show s2=true→a=ph.dst∨a∈ph.args.take j from fun h=>.inr (by
                 rw[h]at hs2;rw[← (beq_iff_eq.1 hs2)]
                 exact HIT.out i hil))
                generalize ith ph.args i=v at *;cases s2
                · as_aux_lemma=>
                  go_wp2_with fail;go_roundw
                  case rel=>exact⟨i+1,false,ZN,rfl,ZO,HS2.out,trivial⟩
                  case measure=>simp[intOf];omega
                · as_aux_lemma=>
                  go_wp2_with fail;go_roundw
                  case rel=>exact⟨i+1,true,ZN,rfl,ZO,HS2.out,trivial⟩
                  case measure=>simp[intOf];omega
              · as_aux_lemma=>
                go_wp2_with fail;go_roundw
                case rel=>exact⟨i+1,true,ZN,rfl,ZO,HBB,trivial⟩
                case measure=>simp[intOf];omega
            · as_aux_lemma=>
              obtain rfl:i=j:=by omega
              cases b
              · as_aux_lemma=>
                go_wp2_with fail;go_roundw
                case rel=>exact⟨i+1,a::L,ZN,ZS,ZO,HNE.out,ZX,trivial⟩
                case measure=>simp[intOf];omega
              · as_aux_lemma=>
                have HSF:=Lh (HSE.out (HBB rfl));go_wp2_with fail;go_roundw
                case rel=>exact⟨i+1,L,ZN,rfl,ZO,HSF.out,ZO,trivial⟩
                case measure=>simp[intOf];omega
         · as_aux_lemma=>
           obtain rfl:j=ph.args.length:=by omega
           have hL2:2≤L.length:=by
            have h1:=HCV;unfold Hid at h1;rw[List.take_length]at h1;exact Ymx h1 HTW.out
           have d1:decide ((L.length:Int)<2)=false:=decide_eq_false ZO;have d2:decide (L.length<2)=false:=decide_eq_false ZO;clear HCV;go_wp2_with fail;go_roundw
           case rel=>exact⟨k+1,ZN,ZO,HB8.out⟩
           case measure=>simp[intOf];omega
      · as_aux_lemma=>
        obtain rfl:k=(G.blk n).phis.length:=by omega
        have hx9:=HX7.out.below hb HX7.out.lt;have p2:=hx9.cell 2;have pl:=hx9.lt;simp at p2;have HBK:=Lh (HB7.out.trans (hb.mono HB7.out.size));have HWK:=Lh hWr;clear hx9 hb hWr;obtain⟨wk,rfl⟩:∃wk:World,wk=wr:=⟨_,rfl⟩;go_wp2_with fail;clear p2 pl
        go_loopw[104] (fun x wr=>∃k:Nat,x=.int .i64 k∧k≤(G.blk n).insts.length∧Below wk.heap.size wk wr) (fun x _=>(G.blk n).insts.length-(intOf x).toNat)
        case atStart=>exact⟨0,rfl,Nz _,Br _ _⟩
        case round=>as_aux_lemma=>
         obtain⟨k,rfl,hk,hb⟩:=hrel;have hWr:=HWK.out.trans (hb.mono HWK.out.size)
         by_cases hkl:k<(G.blk n).insts.length
         · as_aux_lemma=>
           obtain⟨bp,op,A5,c5,rfl,hbp,hp0,hp1,hp2,hp3,l5,k5,r5⟩:=r4.inst hWr hkl;have hnc:=HCL.out.cp _ HMB.out _ (Ybe hkl);generalize (G.blk n).inst k=x at *;have d0:(x.op==1)=false:=by
            rw[beq_eq_false_iff_ne];exact fun e=>by
             have h1:isCp x=true:=decide_eq_true e;rw[hnc]at h1;cases h1
           obtain⟨ws,rfl⟩:∃ws:World,ws=wr:=⟨_,rfl⟩;obtain⟨w8,hw8⟩:∃w8:World,w8=ws.alloc (.cells #[.int .i64 x.op,.int .i64 x.dst,.slice A5 x.args.length c5,.int .i64 x.num] 67):=⟨_,rfl⟩;have hb8:Below ws.heap.size ws w8:=by rw[hw8];exact YaP _ _
           have hx8:BoxAt w8 ws.heap.size #[.int .i64 x.op,.int .i64 x.dst,.slice A5 x.args.length c5,.int .i64 x.num] 67:=by rw[hw8];exact BoxAt.new _ _ _
           have HB8:=Lh (hb.trans (hb8.mono hb.size))
           go_upto_region 31 with fail
           go_loud (rw[← hw8])
           clear hw8 hb8 hp0 hp1 hp2 hp3 hb hWr r5 hnc;have y0:=hx8.cell 0;have yl:=hx8.lt;simp at y0;go_wp2_with fail;go_roundw
           case rel=>exact⟨k+1,ZN,ZO,HB8.out⟩
           case measure=>simp[intOf];omega
         · as_aux_lemma=>
           obtain rfl:k=(G.blk n).insts.length:=by omega
           have HBN2:=Lh (HBK.out.trans (hb.mono HBK.out.size));clear hb hWr;go_wp2_with fail;go_roundw
           case rel=>exact⟨n+1,ZN,ZO,HBN2.out⟩
           case measure=>simp[intOf];omega
   · as_aux_lemma=>
     obtain rfl:n=G.blocks.length:=by omega
     have hgr:=HGX.out.below hb HGX.out.lt;have g0:=hgr.cell 0;have g1:=hgr.cell 1;have g2:=hgr.cell 2;have gl:=hgr.lt;simp at g0 g1 g2;go_wp2_with fail;refine(HC2.out _ hWr).mono ?_;rintro e wa ⟨⟨gv',m',fr',rfl,hGa,hgn'⟩,hba⟩;rw[HCL.out.again _ _ hgn']at hGa;have hBa:=hWr.trans (hba.mono hWr.size);obtain⟨C0,e0,C1,e1,C2,e2,rfl,-⟩:=id hGa.open_;have hsm:=HSM.out wa _ _ hBa hGa (YaP wa (.cells #[.slice C0 G.vars.length e0,.slice C1 G.params.length e1,.slice C2 G.blocks.length e2] 26));have hga:=hgr.below hba hgr.lt;have HBA:=Lh (HB5.out.trans (hBa.mono HB5.out.size));clear g0 g1 g2 gl;have g0:=hga.cell 0;have g1:=hga.cell 1;have g2:=hga.cell 2;have gl:=hga.lt;simp at g0 g1 g2;clear hba hga hGa hBa hgn' hgr hWr hb;go_wp2_with fail;refine hsm.mono ?_;rintro e wc' ⟨rfl,hbc⟩;have HF:=Lh (HBA.out.trans (((YaP wa (.cells #[.slice C0 G.vars.length e0,.slice C1 G.params.length e1,.slice C2 G.blocks.length e2] 26)).trans (hbc.mono (YaP wa _).size)).mono HBA.out.size));clear hbc;go_wp2;go_ret;exact⟨rfl,HF.out⟩
end Go.Proofs.YthhjlbflpjhahaaGreatDoor
namespace Go.Proofs.YthhjlbflpjhahaaGreatDoor
open Go.ChangeShapes Go.WideShapes Go.ChangeAt Go.RowKit
set_option maxRecDepth 100000
theorem YmB(os:Os)(started:os.Started)(H:Type)(enc:TypeId×Value→H) :
 ReturnsInHanded {} Tryz.checked os 7 .any (fun w args=>(Rows.copiesNoneSpec.pre enc Tryz.prog Tryz.f7 [] false w args∧laidMetH Tryz.prog Ycd w)∧sizedMet enc Tryz.prog Tryz.f7 (OpenSpec.ofChange Rows.copiesNoneSpec) false w args)
  (Rows.copiesNoneSpec.post enc Tryz.prog Tryz.f7 false true false false):=by
 refine returnsInHanded_of_change_and (C:=Tryz.checked) (X:=fun w _=>laidMetH Tryz.prog Ycd w) (fun _ _ _ hh h=>h.of_heap hh) own started ZK Tryz.func7
  (ChangeSpec.witness_shaped (enc:=enc) (C:=Tryz.checked) (os:=os) (X:=fun w _=>laidMetH Tryz.prog Ycd w) false (World.laidAll Tryz.prog os Ycd) #[.agg #[.slice none 0 0,.slice none 0 0,.slice none 0 0]] 8 (World.laidAll_os _ _ _)
    (World.shaped_of_ZipB ZK ZK) ZK ZK ZK
    (by rw[MakeChecks.laidMetH_plain _ _ _ ZK];exact YlL os _)) ?_
 intro W base args ds gs before hval0 hW _ hsz hL _;have hval:∀(j:Nat) t v,(Tryz.f7).params[j]?=some t→args[j]?=some v→Value.okWide Tryz.prog W .any base t v:=hval0;have hW':=hW;obtain⟨p,q,hA0,hV,rfl,_,_⟩:=hW;have hA:DataW.TrodAll enc Tryz.prog W 0 (fun _=>true) true (Tryz.f7).params.toList args.toList ds p:=hA0;rw[Tryz.params7]at hA hval hsz;obtain⟨v0,d0,rfl,rfl,h0⟩:=trodAll_one hA;obtain⟨rfl,rfl⟩:=trodVars_none hV;simp only[List.append_nil]at hW';rw[MakeChecks.laidMetH_plain _ _ _ ZK]at hL;have hU:=YlK hL;have hwt:Wt 26 d0:=by
  intro x hx;have hm:x∈DataW.weightsEach Tryz.prog ([26]++DataSpec.varTypes Tryz.prog Rows.copiesNoneSpec.plain) ([d0]++[]):=by simp[DataW.weightsEach,hx]
  have:=List.all_eq_true.1 hsz x hm;simpa using this
 obtain⟨F,hF⟩:=YlH (hval 0 _ v0 rfl rfl) h0 hwt;have hlt:∀x∈p,x.block<W.heap.size:=fun x hx=>by simpa using hW'.lt x hx
 refine(YmA hU hF).mono fun e W' ⟨he,hb⟩=>?_
 subst he;exact⟨_,rfl,_,_,_,[],_,[],hW',trodAll_mk1 (shut_bool Tryz.underlying4 _),trodAll_mk1 (Below.trod YlI ZK (of_decide_eq_true ZK) h0 hb hlt),rfl,hb.frame _,fun h=>by cases h⟩
theorem YmC:Rows.copiesNoneRow.holds Tryz.pinned (OpenSpec.ofChange Rows.copiesNoneSpec):=
 OpenClaim.holds_of_wide 7 Tryz.f7 rfl rfl rfl rfl rfl rfl rfl ⟨rfl,rfl,rfl,rfl,rfl⟩ rfl rfl rfl rfl rfl ZK Tryz.func7 ZK
  (of_decide_eq_true ZK) (by unfold Func.isWrapper;first|(rw[if_pos (by decide +kernel)];kernel_rfl)|(rw[if_neg (by decide +kernel)];exact⟨rfl,rfl⟩))
  (fun os started H enc _=>YmB os started H enc)
theorem cnone_card:Rows.CopiesNoneCardSaid:=
 Claim7.holds_tied_plain_at .later [] [.data,.pinned] true Rows.copiesNoneCard.stood.harness false YmC (fun _ h=>by cases h) ZK (fun _ h=>by cases h) copiesNone_row_tie rfl ⟨rfl,rfl⟩ ZK rfl
  (fun f fn hf hfn=>by
    obtain rfl:f=7:=Option.some.inj ((show(Tryz.prog).funcNamed Rows.copiesNoneRow.func=some 7 from ZK).symm.trans hf) |>.symm;obtain rfl:fn=Tryz.f7:=(Option.some.inj (Tryz.func7.symm.trans hfn)).symm
    exact⟨ZK,fun j t ht=>by
     rw[Tryz.params7]at ht;have hm:t∈[26]:=by simpa using Array.mem_of_getElem? ht
     have hall:([26].all fun u=>!(Tryz.prog).wantsStandIn u)=true:=by kernel_rfl
     exact(show(Tryz.prog).wantsStandIn t=false by simpa using List.all_eq_true.1 hall t hm)⟩)
  ZK
#print axioms cnone_card
end Go.Proofs.YthhjlbflpjhahaaGreatDoor
