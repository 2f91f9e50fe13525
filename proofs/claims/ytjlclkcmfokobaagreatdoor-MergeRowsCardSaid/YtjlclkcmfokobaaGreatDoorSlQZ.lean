/- The walk of the law's Single: is a program single, by the document? -/
import Derived.Test.YtjlclkcmfokobaaGreatDoorSRefZ
import Derived.Test.YtjlclkcmfokobaaGreatDoorGraphZ
import Derived.Test.YtjlclkcmfokobaaGreatDoorFewQZ
import Derived.Test.YtjlclkcmfokobaaGreatDoorSRightZ
namespace Go.Proofs.YtjlclkcmfokobaaGreatDoor
open Go.RowKit
set_option maxRecDepth 100000
theorem Yof{F:PFunc}(hT:Yd F=true){i k:Nat}(hi:i<F.blocks.length)(hk:k<(F.blk i).insts.length):0≤((F.blk i).inst k).op∧((F.blk i).inst k).op<27:=by
 have h1:=(Ybd (Yx hT) hi).2.1 _ (Yar hk);unfold Ym at h1;simp only[Bool.and_eq_true]at h1;have:=YQ h1.1.1.1.1;omega
def Yco(x:PInst):Bool:=decide (x.op=25)||decide (x.op=26)
theorem Yog:∀args w,(callFunc 77 args).run Tryz.prog w=.ok (.enter 77 args) w:=fun _ _=>by kernel_rfl
theorem Yoh{W w:World}{pv:Value}{x:PInst}(hp:InstV W W.heap.size pv x) :
 Calls Tryz.prog 77 #[pv] w fun e w'=>e=.returned (.bool (Yco x))∧Below w.heap.size w w':=by
 obtain⟨A1,c1,rfl,-⟩:=hp.open_;have HD:=Lh (show Yco x=(decide (x.op=25)||decide (x.op=26))from rfl)
 by_cases h1:x.op=25
 · have h1':(x.op==25)=true:=by simp[h1]
   have HF:=Lh (show Yco x=true by rw[HD.out,decide_eq_true h1];rfl);clear h1;go_enter Tryz.func77,Tryz.ntmps77;go_wp2;go_ret;exact⟨Yb HF.out.symm,by(focus repeat(first|assumption|exact Br _ _|refine Below.drew ?_|refine Below.alloc ?_ (by first|omega|exact Below.size ZA|(simp;done)|(simp;omega)) _|(refine Below.trans ?_ (Below.mono ZA ?_);rotate_left;exact(by first|omega|exact Below.size ZA|(simp;done)|(simp;omega)))))⟩
 · have h1':(x.op==25)=false:=by simp[h1]
   have HF:=Lh (show Yco x=(x.op==26) by rw[HD.out,decide_eq_false h1,Bool.false_or];rfl);clear h1;go_enter Tryz.func77,Tryz.ntmps77;go_wp2;go_ret;exact⟨Yb HF.out.symm,by(focus repeat(first|assumption|exact Br _ _|refine Below.drew ?_|refine Below.alloc ?_ (by first|omega|exact Below.size ZA|(simp;done)|(simp;omega)) _|(refine Below.trans ?_ (Below.mono ZA ?_);rotate_left;exact(by first|omega|exact Below.size ZA|(simp;done)|(simp;omega)))))⟩
def YiN(W w:World)(k:FuncId)(ps:List PInst)(p:PInst→Bool):Prop:=
 ∀x,x∈ps→∀pv,InstV W W.heap.size pv x→∀w1,Below w.heap.size w w1→Calls Tryz.prog k #[pv] w1 fun e w'=>e=.returned (.bool (p x))∧Below w1.heap.size w1 w'
set_option maxHeartbeats 400000 in
theorem YiO{W w:World}{A:Option Addr}{c0:Nat}{b:PBlock}(hr:Rd W.heap.size A b.insts 4 (InstC W W.heap.size))(hl:Len b.insts.length)(hW:Below W.heap.size W w)(k:FuncId)(p:PInst→Bool)(eg:∀args w,(callFunc k args).run Tryz.prog w=.ok (.enter k args) w)(hp:YiN W w k b.insts p) :
 Calls Tryz.prog 72 #[.slice A b.insts.length c0,.func (.func k) #[] #[]] w fun e w'=>e=.returned (.int .i64 (Yg p b.insts 0))∧Below w.heap.size w w':=by
 unfold Len at hl;go_enter Tryz.func72,Tryz.ntmps72;go_wp2
 go_loopw[5,8] (fun _ i wr=>∃n:Nat,i=.int .i64 n∧n≤b.insts.length∧Below w.heap.size w wr∧Hid (Yg p b.insts 0=Yg p (b.insts.drop n) n)) (fun _ i _=>b.insts.length-(intOf i).toNat)
 case atStart=>exact⟨0,rfl,Nz _,Br _ _,by simp[Hid]⟩
 case round=>
  obtain⟨n,rfl,hn,hb,hf⟩:=hrel
  by_cases hlt:n<b.insts.length
  · obtain⟨bb,off,A1,c1,rfl,hbs,x0,x1,x2,x3,l1,k1,r1⟩:=hr.inst (hW.trans (hb.mono hW.size)) hlt
    have hcl:=hp _ (Yar hlt) _ ⟨_,rfl,A1,c1,rfl,l1,k1,r1⟩ wr hb;have hd:=Lh (YcX hlt);clear l1 k1 r1;cases hx:p (b.inst n)
    · rw[hx]at hcl
      have hf2:=Lh (show Yg p b.insts 0=Yg p (b.insts.drop (n+1)) (n+1) by rw[hf.out,hd.out,Yg,if_neg (by rw[hx];decide)]);clear hx;go_wp2_with(go_at_fn k;refine hcl.mono ?_;(rintro e w1 ⟨rfl,hb1⟩;obtain⟨hc1,hf1⟩:=Ya hb1;have hz1:=hb1.size;try simp at hz1;try have hy1:=Nl hz1;try have hx1:=Ns hy1;try have hw1:=Ns hx1));go_roundw
      case rel=>exact⟨n+1,ZN,ZO,by(focus repeat(first|assumption|exact Br _ _|refine Below.drew ?_|refine Below.alloc ?_ (by first|omega|exact Below.size ZA|(simp;done)|(simp;omega)) _|(refine Below.trans ?_ (Below.mono ZA ?_);rotate_left;exact(by first|omega|exact Below.size ZA|(simp;done)|(simp;omega))))),hf2⟩
      case measure=>simp[intOf];omega
    · rw[hx]at hcl
      have hf2:=Lh (show Yg p b.insts 0=n by rw[hf.out,hd.out,Yg,if_pos hx]);clear hx;go_wp2_with(go_at_fn k;refine hcl.mono ?_;(rintro e w1 ⟨rfl,hb1⟩;obtain⟨hc1,hf1⟩:=Ya hb1;have hz1:=hb1.size;try simp at hz1;try have hy1:=Nl hz1;try have hx1:=Ns hy1;try have hw1:=Ns hx1));go_ret;exact⟨Yt hf2.out.symm,by(focus repeat(first|assumption|exact Br _ _|refine Below.drew ?_|refine Below.alloc ?_ (by first|omega|exact Below.size ZA|(simp;done)|(simp;omega)) _|(refine Below.trans ?_ (Below.mono ZA ?_);rotate_left;exact(by first|omega|exact Below.size ZA|(simp;done)|(simp;omega)))))⟩
  · have hf2:=Lh (show Yg p b.insts 0=-1 by rw[hf.out,List.drop_eq_nil_of_le ZO];rfl)
    go_wp2;go_ret;exact⟨Yt hf2.out.symm,hb⟩
theorem Yoi{W w:World}{A:Option Addr}{c0:Nat}{b:PBlock}(hr:Rd W.heap.size A b.insts 4 (InstC W W.heap.size))(hl:Len b.insts.length)(hW:Below W.heap.size W w)(k:FuncId)(p:PInst→Bool)(eg:∀args w,(callFunc k args).run Tryz.prog w=.ok (.enter k args) w)(hp:YiN W w k b.insts p) :
 Calls Tryz.prog 76 #[.slice A b.insts.length c0,.func (.func k) #[] #[]] w fun e w'=>e=.returned (.bool (b.insts.any p))∧Below w.heap.size w w':=by
 have hi:=YiO (c0:=c0) hr hl hW k p eg hp;go_enter Tryz.func76,Tryz.ntmps76;go_wp2_with(go_at_call 72;refine hi.mono ?_;rintro e w1 ⟨rfl,hb⟩);go_ret;exact⟨Yam (by simp only[decide_eq_true_eq];exact Ycq p b.insts 0),hb⟩
def YbJ(b:PBlock):Bool:=b.insts.all fun x=>decide (x.op<25)
theorem Yoj{F:PFunc}(hT:Yd F=true){i:Nat}(hi:i<F.blocks.length):(F.blk i).insts.any Yco=!YbJ (F.blk i):=by
 unfold YbJ;rw[List.not_all_eq_any_not,Bool.eq_iff_iff,List.any_eq_true,List.any_eq_true];have key:∀x∈(F.blk i).insts,Yco x=!decide (x.op<25):=fun x hx=>by
  obtain⟨k,hk,rfl⟩:=List.getElem_of_mem hx;have h1:=Yof hT hi hk;rw[PBlock.inst,YL hk]at h1;unfold Yco;rw[Bool.eq_iff_iff];simp only[Bool.or_eq_true,decide_eq_true_eq,Bool.not_eq_true',decide_eq_false_iff_not];omega
 constructor
 · rintro⟨x,hx,h⟩
   exact⟨x,hx,by rw[← key x hx];exact h⟩
 · rintro⟨x,hx,h⟩
   exact⟨x,hx,by rw[key x hx];exact h⟩
theorem YiP{F:PFunc}{i:Nat}(hi:i<F.blocks.length)(h:YbJ (F.blk i)=false):noPi F=false:=by
 rw[← Bool.not_eq_true];intro hh;unfold noPi at hh;rw[List.all_eq_true]at hh;have:=hh _ (Y4 hi);unfold YbJ at h;rw[h]at this;cases this
theorem YiQ{F:PFunc}(h:∀i,i<F.blocks.length→YbJ (F.blk i)=true):noPi F=true:=by
 unfold noPi;rw[List.all_eq_true];intro b hb;obtain⟨i,hi,rfl⟩:=List.getElem_of_mem hb;have:=h i hi
 rwa [PFunc.blk,YL hi]at this
noncomputable def Yao (F:PFunc):Bool:=YaD F&&noPi F
set_option maxHeartbeats 4000000 in
theorem Yok{W w:World}{fv:Value}{F:PFunc}(hU:Uni W)(hF:FnV W W.heap.size fv F)(hW:Below W.heap.size W w)(hS:YU F)(hB:Bnd F) :
 Calls Tryz.prog 37 #[fv] w fun e w'=>e=.returned (.int .i64 (YX (Yao F)))∧Below w.heap.size w w':=by
 have hr:=fun(w':World) (h:Below W.heap.size W w')=>Yn2 hU hF h hS hB
 have hWs:=hW.size;obtain⟨X,hX⟩:∃X,YaD F=X:=⟨_,rfl⟩;rw[hX]at hr;have HX:=Lh hX;clear hX;obtain⟨A0,c0,A1,c1,A2,c2,rfl,l0,l1,l2,-,-,-,r0,r1,r2⟩:=id hF.open_;unfold Len at *;have hb0:=(Br w.heap.size w).alloc (Nr _) (.cells #[.slice A0 F.vars.length c0,.slice A1 F.params.length c1,.slice A2 F.blocks.length c2] 26);cases X
 · have HF:=Lh (show YX (Yao F)=3 by rw[Yao,HX.out];rfl)
   replace hr:∀w',Below W.heap.size W w'→Calls Tryz.prog 75 #[.agg #[.slice A0 F.vars.length c0,.slice A1 F.params.length c1,.slice A2 F.blocks.length c2]] w' fun e w''=>e=.returned (.int .i64 3)∧Below w'.heap.size w' w'':=hr
   go_enter Tryz.func37,Tryz.ntmps37;go_wp2_with fail;refine(hr _ (by(focus repeat(first|assumption|exact Br _ _|refine Below.drew ?_|refine Below.alloc ?_ (by first|omega|exact Below.size ZA|(simp;done)|(simp;omega)) _|(refine Below.trans ?_ (Below.mono ZA ?_);rotate_left;exact(by first|omega|exact Below.size ZA|(simp;done)|(simp;omega))))))).mono ?_;(rintro e w1 ⟨rfl,hb1⟩;obtain⟨hc1,hf1⟩:=Ya hb1;have hz1:=hb1.size;try simp at hz1;try have hy1:=Nl hz1;try have hx1:=Ns hy1;try have hw1:=Ns hx1);go_wp2;go_ret;exact⟨Yt HF.out.symm,by(focus repeat(first|assumption|exact Br _ _|refine Below.drew ?_|refine Below.alloc ?_ (by first|omega|exact Below.size ZA|(simp;done)|(simp;omega)) _|(refine Below.trans ?_ (Below.mono ZA ?_);rotate_left;exact(by first|omega|exact Below.size ZA|(simp;done)|(simp;omega)))))⟩
 replace hr:∀w',Below W.heap.size W w'→Calls Tryz.prog 75 #[.agg #[.slice A0 F.vars.length c0,.slice A1 F.params.length c1,.slice A2 F.blocks.length c2]] w' fun e w''=>e=.returned (.int .i64 0)∧Below w'.heap.size w' w'':=hr
 have HT:=Lh (show Yd F=true by have:=HX.out;unfold YaD at this;rw[Bool.and_eq_true]at this;exact this.1);obtain⟨n1,n2⟩:=Y1 (Yx HT.out);have HPL:=Lh (show Yao F=noPi F by rw[Yao,HX.out];rfl);go_enter Tryz.func37,Tryz.ntmps37;go_wp2_with fail;refine(hr _ (by(focus repeat(first|assumption|exact Br _ _|refine Below.drew ?_|refine Below.alloc ?_ (by first|omega|exact Below.size ZA|(simp;done)|(simp;omega)) _|(refine Below.trans ?_ (Below.mono ZA ?_);rotate_left;exact(by first|omega|exact Below.size ZA|(simp;done)|(simp;omega))))))).mono ?_;rintro e w4 ⟨rfl,hb4⟩;have hX4:Below (w.heap.size+1) (w.alloc (.cells #[.slice A0 F.vars.length c0,.slice A1 F.params.length c1,.slice A2 F.blocks.length c2] 26)) w4:=by simpa using hb4
 have hB4:=hb0.trans (hX4.mono (Nat.le_succ _));obtain⟨q,q0,q1,q2⟩:=Yn hX4;go_wp2;clear q q0 q1 q2
 go_loopw[14] (fun x wr=>∃n:Nat,x=.int .i64 n∧n≤F.blocks.length∧Hid (∀m,m<n→YbJ (F.blk m)=true)∧Below w4.heap.size w4 wr) (fun x _=>F.blocks.length-(intOf x).toNat)
 case atStart=>exact⟨0,rfl,Nz _,fun m hm=>absurd hm (Nat.not_lt_zero _),Br _ _⟩
 case round=>as_aux_lemma=>
  obtain⟨n,rfl,hn,HA,hb⟩:=hrel;have hB:=hB4.trans (hb.mono hB4.size);have hWr:Below W.heap.size W wr:=hW.trans (hB.mono hWs)
  by_cases hlt:n<F.blocks.length
  · obtain⟨bb,off,A3,c3,A4,c4,rfl,hbb,hnz,hy0,hy1,hy2,hy3,hy4,hy5,hy6,l3,l4,k3,k4,r3,r4⟩:=r2.blk hWr hlt
    have hcl:=fun(w':World) (h:Below W.heap.size W w')=>Yoi (c0:=c4) r4 l4 h 77 Yco Yog (fun x _ pv hp w1 _=>Yoh hp)
    rw[Yoj HT.out hlt]at hcl;obtain⟨X,hX⟩:∃X,YbJ (F.blk n)=X:=⟨_,rfl⟩;rw[hX]at hcl;have HXX:=Lh hX;clear hX;unfold Len at l3 l4;have HBA:=Lh ((Br wr.heap.size wr).alloc (Nr _) (.cells #[.string (F.blk n).name,.slice A3 (F.blk n).phis.length c3,.slice A4 (F.blk n).insts.length c4,.int .i64 (F.blk n).term.kind,.int .i64 (F.blk n).term.var,.int .i64 (F.blk n).term.t0,.int .i64 (F.blk n).term.t1] 41));cases X
    · as_aux_lemma=>
      have HF:=Lh (show YX (Yao F)=3 by rw[HPL.out,YiP hlt HXX.out];rfl);go_wp2_with fail;refine(hcl _ (by(focus repeat(first|assumption|exact Br _ _|refine Below.drew ?_|refine Below.alloc ?_ (by first|omega|exact Below.size ZA|(simp;done)|(simp;omega)) _|(refine Below.trans ?_ (Below.mono ZA ?_);rotate_left;exact(by first|omega|exact Below.size ZA|(simp;done)|(simp;omega))))))).mono ?_;rintro e w9 ⟨rfl,hb9⟩;go_wp2;go_ret;exact⟨Yt HF.out.symm,hB.trans ((HBA.out.trans (hb9.mono HBA.out.size)).mono hB.size)⟩
    · as_aux_lemma=>
      go_wp2_with fail;refine(hcl _ (by(focus repeat(first|assumption|exact Br _ _|refine Below.drew ?_|refine Below.alloc ?_ (by first|omega|exact Below.size ZA|(simp;done)|(simp;omega)) _|(refine Below.trans ?_ (Below.mono ZA ?_);rotate_left;exact(by first|omega|exact Below.size ZA|(simp;done)|(simp;omega))))))).mono ?_;rintro e w9 ⟨rfl,hb9⟩;go_wp2;go_roundw
      case rel=>exact⟨n+1,ZN,ZO,fun t ht=>if h:t<n then HA.out t h else by
       obtain rfl:t=n:=by omega
       exact HXX.out,hb.trans ((HBA.out.trans (hb9.mono HBA.out.size)).mono hb.size)⟩
      case measure=>simp[intOf];omega
  · obtain rfl:n=F.blocks.length:=by omega
    have HF:=Lh (show YX (Yao F)=0 by rw[HPL.out,YiQ HA.out];rfl);go_wp2;go_ret;exact⟨Yt HF.out.symm,hB⟩
set_option maxHeartbeats 4000000 in
theorem Yol{W w:World}{fv:Value}{F:PFunc}(hF:FnV W W.heap.size fv F)(hW:Below W.heap.size W w)(hT:Yd F=true) :
 Calls Tryz.prog 40 #[fv] w fun e w'=>e=.returned (.bool (YcL F))∧Below w.heap.size w w':=by
 have hs:=fun(w':World) (h:Below W.heap.size W w')=>Yoe hF h hT
 have hWs:=hW.size;obtain⟨n1,n2⟩:=Y1 (Yx hT);have HTP:=Lh (fun n (hn:n<F.blocks.length)=>Yep hT hn);obtain⟨A0,c0,A1,c1,A2,c2,rfl,l0,l1,l2,-,-,-,r0,r1,r2⟩:=id hF.open_;unfold Len at *;have hb0:=(Br w.heap.size w).alloc (Nr _) (.cells #[.slice A0 F.vars.length c0,.slice A1 F.params.length c1,.slice A2 F.blocks.length c2] 26);have HNO:=Lh (fun(h:noPi F=false)=>show YcL F=false by rw[YcL,h];rfl);have HYE:=Lh (fun(h:noPi F=true)=>show YcL F=Ybi F by rw[YcL,h];rfl);clear hT;go_enter Tryz.func40,Tryz.ntmps40;go_wp2
 go_loopw[10] (fun x wr=>∃n:Nat,x=.int .i64 n∧n≤F.blocks.length∧Hid (∀m,m<n→YbJ (F.blk m)=true)∧Below (w.heap.size+1) (w.alloc (.cells #[.slice A0 F.vars.length c0,.slice A1 F.params.length c1,.slice A2 F.blocks.length c2] 26)) wr) (fun x _=>F.blocks.length-(intOf x).toNat)
 case atStart=>exact⟨0,rfl,Nz _,fun m hm=>absurd hm (Nat.not_lt_zero _),Br _ _⟩
 case round=>as_aux_lemma=>
  obtain⟨n,rfl,hn,HA,hb⟩:=hrel;have hB:=hb0.trans (hb.mono (Nat.le_succ _));have hWr:Below W.heap.size W wr:=hW.trans (hB.mono hWs)
  by_cases hlt:n<F.blocks.length
  · obtain⟨bb,off,A3,c3,A4,c4,rfl,hbb,hnz,hy0,hy1,hy2,hy3,hy4,hy5,hy6,l3,l4,k3,k4,r3,r4⟩:=r2.blk hWr hlt
    have hpt:=HTP.out n hlt;unfold Len at l3 l4;have HNB:=Lh (fun h=>HNO.out (YiP hlt h));have hws:w.heap.size+1≤wr.heap.size:=by have:=hb.size;simpa using this
    obtain⟨wq,rfl⟩:∃wq:World,wq=wr:=⟨_,rfl⟩;go_wp2
    go_loopw[17] (fun x wr=>∃k:Nat,x=.int .i64 k∧k≤(F.blk n).insts.length∧Hid (∀j,j<k→((F.blk n).inst j).op<25)∧Below wq.heap.size wq wr) (fun x _=>(F.blk n).insts.length-(intOf x).toNat)
    case atStart=>exact⟨0,rfl,Nz _,fun m hm=>absurd hm (Nat.not_lt_zero _),by(focus repeat(first|assumption|exact Br _ _|refine Below.drew ?_|refine Below.alloc ?_ (by first|omega|exact Below.size ZA|(simp;done)|(simp;omega)) _|(refine Below.trans ?_ (Below.mono ZA ?_);rotate_left;exact(by first|omega|exact Below.size ZA|(simp;done)|(simp;omega)))))⟩
    case round=>as_aux_lemma=>
     obtain⟨k,rfl,hk,HK,hbk⟩:=hrel;have hBr:Below w.heap.size w wr:=hB.trans (hbk.mono hB.size);have hWi:Below W.heap.size W wr:=hW.trans (hBr.mono hWs)
     by_cases hkl:k<(F.blk n).insts.length
     · obtain⟨bp,op,A6,c6,rfl,hbp,hp0,hp1,hp2,hp3,l6,k6,-⟩:=r4.inst hWi hkl
       unfold Len at l6;clear hy0 hy1 hy2 hy3 hy4 hy5 hy6 hnz
       by_cases h25:25≤((F.blk n).inst k).op
       · have HF:=Lh (HNB.out (by
          unfold YbJ;rw[← Bool.not_eq_true,List.all_eq_true];intro hh;have:=of_decide_eq_true (hh _ (Yar hkl))
          omega))
         go_wp2;go_ret;exact⟨Yb HF.out.symm,by(focus repeat(first|assumption|exact Br _ _|refine Below.drew ?_|refine Below.alloc ?_ (by first|omega|exact Below.size ZA|(simp;done)|(simp;omega)) _|(refine Below.trans ?_ (Below.mono ZA ?_);rotate_left;exact(by first|omega|exact Below.size ZA|(simp;done)|(simp;omega)))))⟩
       · have HE:=Lh (show((F.blk n).inst k).op<25 from ZO)
         go_wp2;go_roundw
         case rel=>exact⟨k+1,ZN,ZO,fun t ht=>if h:t<k then HK.out t h else by
          obtain rfl:t=k:=by omega
          exact HE.out,by(focus repeat(first|assumption|exact Br _ _|refine Below.drew ?_|refine Below.alloc ?_ (by first|omega|exact Below.size ZA|(simp;done)|(simp;omega)) _|(refine Below.trans ?_ (Below.mono ZA ?_);rotate_left;exact(by first|omega|exact Below.size ZA|(simp;done)|(simp;omega)))))⟩
         case measure=>simp[intOf];omega
     · obtain rfl:k=(F.blk n).insts.length:=by omega
       have HOK:=Lh (show YbJ (F.blk n)=true by
        unfold YbJ;rw[List.all_eq_true];intro x hx;obtain⟨j,hj,rfl⟩:=List.getElem_of_mem hx;have:=HK.out j hj;rw[PBlock.inst,YL hj]at this
        exact decide_eq_true this)
       go_wp2;go_roundw
       case rel=>exact⟨n+1,ZN,ZO,fun t ht=>if h:t<n then HA.out t h else by
        obtain rfl:t=n:=by omega
        exact HOK.out,hb.trans (hbk.mono hws)⟩
       case measure=>simp[intOf];omega
  · obtain rfl:n=F.blocks.length:=by omega
    have HF:=Lh (HYE.out (YiQ HA.out));obtain⟨q,q0,q1,q2⟩:=Yn hb;have hs':=hs wr hWr;rw[← HF.out]at hs';go_wp2_with fail;refine hs'.mono ?_;rintro e w9 ⟨rfl,hb9⟩;go_wp2;go_ret;exact⟨rfl,hB.trans (hb9.mono hB.size)⟩
theorem Ygo{W w:World}{fv:Value}{F:PFunc}(hU:Uni W)(hF:FnV W W.heap.size fv F)(hW:Below W.heap.size W w) :
 Calls Tryz.prog 13 #[fv] w fun e w'=>e=.returned (.bool (Ya2 F&&YaC F))∧Below w.heap.size w w':=by
 have hty:=fun(w:World) (h:Below W.heap.size W w)=>Ynz hU hF h
 have hWs:=hW.size;obtain⟨A0,c0,A1,c1,A2,c2,rfl,-⟩:=id hF.open_;cases hx:Ya2 F
 · rw[hx]at hty
   clear hx;go_enter Tryz.func13,Tryz.ntmps13;go_wp2_with fail;refine(hty _ (by(focus repeat(first|assumption|exact Br _ _|refine Below.drew ?_|refine Below.alloc ?_ (by first|omega|exact Below.size ZA|(simp;done)|(simp;omega)) _|(refine Below.trans ?_ (Below.mono ZA ?_);rotate_left;exact(by first|omega|exact Below.size ZA|(simp;done)|(simp;omega))))))).mono ?_;(rintro e w1 ⟨rfl,hb1⟩;obtain⟨hc1,hf1⟩:=Ya hb1;have hz1:=hb1.size;try simp at hz1;try have hy1:=Nl hz1;try have hx1:=Ns hy1;try have hw1:=Ns hx1);go_wp2;go_ret;exact⟨rfl,by(focus repeat(first|assumption|exact Br _ _|refine Below.drew ?_|refine Below.alloc ?_ (by first|omega|exact Below.size ZA|(simp;done)|(simp;omega)) _|(refine Below.trans ?_ (Below.mono ZA ?_);rotate_left;exact(by first|omega|exact Below.size ZA|(simp;done)|(simp;omega)))))⟩
 · rw[hx]at hty
   have hT:Yd F=true:=by unfold Ya2 at hx;rw[Bool.and_eq_true]at hx;exact hx.2
   have hs:=fun(w:World) (h:Below W.heap.size W w)=>Yol hF h hT
   rw[YnK hT]at hs;clear hx hT;generalize YaC F=X at *;go_enter Tryz.func13,Tryz.ntmps13;go_wp2_with fail;refine(hty _ (by(focus repeat(first|assumption|exact Br _ _|refine Below.drew ?_|refine Below.alloc ?_ (by first|omega|exact Below.size ZA|(simp;done)|(simp;omega)) _|(refine Below.trans ?_ (Below.mono ZA ?_);rotate_left;exact(by first|omega|exact Below.size ZA|(simp;done)|(simp;omega))))))).mono ?_;(rintro e w1 ⟨rfl,hb1⟩;obtain⟨hc1,hf1⟩:=Ya hb1;have hz1:=hb1.size;try simp at hz1;try have hy1:=Nl hz1;try have hx1:=Ns hy1;try have hw1:=Ns hx1);go_wp2_with fail;refine(hs _ (by(focus repeat(first|assumption|exact Br _ _|refine Below.drew ?_|refine Below.alloc ?_ (by first|omega|exact Below.size ZA|(simp;done)|(simp;omega)) _|(refine Below.trans ?_ (Below.mono ZA ?_);rotate_left;exact(by first|omega|exact Below.size ZA|(simp;done)|(simp;omega))))))).mono ?_;(rintro e w2 ⟨rfl,hb2⟩;obtain⟨hc2,hf2⟩:=Ya hb2;have hz2:=hb2.size;try simp at hz2;try have hy2:=Nl hz2;try have hx2:=Ns hy2;try have hw2:=Ns hx2);go_wp2;go_ret;exact⟨rfl,by(focus repeat(first|assumption|exact Br _ _|refine Below.drew ?_|refine Below.alloc ?_ (by first|omega|exact Below.size ZA|(simp;done)|(simp;omega)) _|(refine Below.trans ?_ (Below.mono ZA ?_);rotate_left;exact(by first|omega|exact Below.size ZA|(simp;done)|(simp;omega)))))⟩
end Go.Proofs.YtjlclkcmfokobaaGreatDoor
