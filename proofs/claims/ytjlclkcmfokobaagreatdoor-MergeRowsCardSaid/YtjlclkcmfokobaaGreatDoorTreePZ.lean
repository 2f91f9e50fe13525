/- The walk of dom.nearest: the nearest block above each one. -/
import Derived.Test.YtjlclkcmfokobaaGreatDoorAboveZ
import Derived.Test.YtjlclkcmfokobaaGreatDoorPredsZ
import Derived.Deep.LoopGhost
import Derived.Maps.AppendAt
namespace Go.Proofs.YtjlclkcmfokobaaGreatDoor
open Go.RowKit
set_option maxRecDepth 100000
structure NearOk (n:Nat) (O:List Nat) (P:Nat→List Nat) (L:List (Option Nat)):Prop where
 len:L.length=n
 zero:fnO L 0=some 0
 tok:TOk (·∈O) (pz n O) (fnO L)
 all:∀{b},b∈O→fnO L b≠none
 dom:∀{b d},b∈O→(Anc (fnO L) d b↔¬YaZ (fun a b=>a∈P b) d b)
theorem Yhp{n b:Nat}:fnO (List.replicate n none) b=none:=by
 simp only[fnO,List.getD,List.getElem?_replicate];split<;>rfl
theorem Yc4{w:World}{B B' e sz n:Nat}{v:Value}{xs:List Value}(h:w.ownsRow B e sz v n xs)(hb:B'≤B):w.ownsRow B' e sz v n xs:=by
 obtain⟨h1,h2⟩:=h;refine⟨h1,?_⟩;rcases h2 with h2|⟨g,cap,cur,hv,hg,r⟩
 · exact .inl h2
 · exact .inr ⟨g,cap,cur,hv,Nat.le_trans hb hg,r⟩
structure NI (w wr:World) (n gn ga cb:Nat) (L AT:List (Option Nat)):Prop where
 hb:Below w.heap.size w wr
 hn:wr.ownsRow w.heap.size 3 1 (.slice (some ⟨gn,0,none⟩) n n) n (YaN L)
 ha:wr.ownsRow w.heap.size 3 1 (.slice (some ⟨ga,0,none⟩) n n) n (YaN AT)
 c:cb<wr.heap.size
 c0:wr.cell? ⟨cb,0,none⟩=some (.slice (some ⟨gn,0,none⟩) n n)
 c1:wr.cell? ⟨cb,1,none⟩=some (.slice (some ⟨ga,0,none⟩) n n)
 d1:gn≠ga
 d2:gn≠cb
 d3:ga≠cb
section
variable {w wr w':World} {n gn ga cb i:Nat} {L AT:List (Option Nat)} {o:Option Nat}
theorem NI.below(h:NI w wr n gn ga cb L AT)(hb:Below wr.heap.size wr w'):NI w w' n gn ga cb L AT:=
 ⟨h.hb.trans (hb.mono h.hb.size),Yu h.hn hb,Yu h.ha hb,Nt h.c hb.size,(hb.cell (p:=⟨cb,0,none⟩) h.c).trans h.c0,(hb.cell (p:=⟨cb,1,none⟩) h.c).trans h.c1,h.d1,h.d2,h.d3⟩
theorem NI.setA(h:NI w wr n gn ga cb L AT):NI w (wr.setCell ⟨ga,i,none⟩ (.int .i64 (YN o))) n gn ga cb L (AT.set i o):=by
 have hg:=(h.ha.lt _ rfl).1;refine⟨h.hb.setCell (p:=⟨ga,i,none⟩) hg _,ownsRow_setCell_other h.hn (a:=⟨ga,i,none⟩) (by simpa[Value.ownBlock]using h.d1) _,?_,by simpa using h.c,?_,?_,h.d1,h.d2,h.d3⟩
 · rw[← YfB];exact(h.ha.stored i _).1
 · rw[World.cell?_setCell_far _ _ _ _ (by simpa using h.d3)];exact h.c0
 · rw[World.cell?_setCell_far _ _ _ _ (by simpa using h.d3)];exact h.c1
theorem NI.setN(h:NI w wr n gn ga cb L AT):NI w (wr.setCell ⟨gn,i,none⟩ (.int .i64 (YN o))) n gn ga cb (L.set i o) AT:=by
 have hg:=(h.hn.lt _ rfl).1;refine⟨h.hb.setCell (p:=⟨gn,i,none⟩) hg _,?_,ownsRow_setCell_other h.ha (a:=⟨gn,i,none⟩) (by simpa[Value.ownBlock]using fun e=>h.d1 e.symm) _,by simpa using h.c,?_,?_,h.d1,h.d2,h.d3⟩
 · rw[← YfB];exact(h.hn.stored i _).1
 · rw[World.cell?_setCell_far _ _ _ _ (by simpa using h.d2)];exact h.c0
 · rw[World.cell?_setCell_far _ _ _ _ (by simpa using h.d2)];exact h.c1
theorem NI.facts(h:NI w wr n gn ga cb L AT):cb<wr.heap.size∧gn<wr.heap.size∧ga<wr.heap.size∧(∀j,wr.frozen? ⟨gn,j,none⟩=false)∧(∀j,wr.frozen? ⟨ga,j,none⟩=false)∧gn≠cb∧cb≠gn∧ga≠cb∧cb≠ga∧gn≠ga∧ga≠gn:=
 ⟨h.c,(h.hn.lt _ rfl).2,(h.ha.lt _ rfl).2,fun j=>h.hn.frozenAt j,fun j=>h.ha.frozenAt j,h.d2,fun e=>h.d2 e.symm,h.d3,fun e=>h.d3 e.symm,h.d1,fun e=>h.d1 e.symm⟩
theorem YbS{B e g:Nat}(h:wr.ownsRow B e 1 (.slice (some ⟨g,0,none⟩) n n) n (YaN L))(hl:L.length=n)(hi:i<n):wr.cell? ⟨g,i,none⟩=some (.int .i64 (YN (fnO L i))):=
 (RowO.of_own h hl).2 i ZO
end
theorem Rd.first{W:World}{A:Option Addr}{xs:List Int}(h:Rd W.heap.size A xs 1 (Yk W))(hn:0<xs.length) :
 ∃b off,A=some ⟨b,off,none⟩∧b<W.heap.size∧∀i,i<xs.length→W.cell? ⟨b,off+i,none⟩=some (.int .i64 (ith xs i)):=by
 obtain⟨b,off,rfl,hb,-⟩:=h.int (Br _ _) hn;refine⟨b,off,rfl,hb,fun i hi=>?_⟩;obtain⟨b',off',he,-,hc⟩:=h.int (Br _ _) hi;cases he;exact hc
theorem Rd.rows{W:World}{A:Option Addr}{xss:List (List Int)}(h:Rd W.heap.size A xss 1 (RowC W W.heap.size))(hn:0<xss.length) :
 ∃b off,A=some ⟨b,off,none⟩∧b<W.heap.size∧∀i,i<xss.length→∃A' c,W.cell? ⟨b,off+i,none⟩=some (.slice A' (xss.getD i []).length c)∧(xss.getD i []).length≤c∧Rd W.heap.size A' (xss.getD i []) 1 (Yk W):=by
 obtain⟨b,off,rfl,hb,-⟩:=h 0 (xss.getD 0 []) (by simp[hn]);refine⟨b,off,rfl,hb,fun i hi=>?_⟩;obtain⟨b',off',he,-,v,hc,A',c,rfl,-,hk,hr⟩:=h i (xss.getD i []) (by simp[hi]);cases he;exact⟨A',c,by simpa using hc,hk,hr⟩
theorem NMid.start{n:Nat}{O:List Nat}{P:Nat→List Nat}{L:List (Option Nat)}(g:GrOk n O P)(q:QInv (·∈O) (pz n O) (fun a b=>a∈P b) (fnO L) 1)(hl:L.length=n)(h0:fnO L 0=some 0):NMid n O P L 1 L false:=
 ⟨q,hl,h0,fun _=>⟨rfl,fun b v hb hb0 hlt _=>(hb0 (g.gok.inj hb g.gok.r0 (by rw[g.gok.at0];omega))).elim⟩,(fun h=>by cases h)⟩
theorem YdC{n b:Nat}{O:List Nat}{P:Nat→List Nat}(g:GrOk n O P)(hb:b∈O):pz n O b<O.length:=by
 obtain⟨i,hi,_,h⟩:=g.mem hb;omega
theorem NearOk.of{n:Nat}{O:List Nat}{P:Nat→List Nat}{L:List (Option Nat)}(g:GrOk n O P)(q:QInv (·∈O) (pz n O) (fun a b=>a∈P b) (fnO L) O.length)(hl:L.length=n)(h0:fnO L 0=some 0)
 (hm:∀b v,b∈O→b≠0→pz n O b<O.length→fnO L b=some v→Ych (·∈O) (fun a b=>a∈P b) (fnO L) b v):NearOk n O P L:=
 ⟨hl,h0,q.tok,fun hb=>q.done hb (YdC g hb),fun hb=>q.fin g.gok (fun _ hb=>YdC g hb) (fun b v hb h0 hN=>hm b v hb h0 (YdC g hb) hN) hb⟩
set_option maxHeartbeats 8000000 in
theorem YlF{W w:World}{n co cp:Nat}{O:List Nat}{P:Nat→List Nat}{PP:List (List Int)}{AO AP:Option Addr}(hW:Below W.heap.size W w)(hO:Rd W.heap.size AO (Yf O) 1 (Yk W))(hco:O.length≤co)
 (hP:Rd W.heap.size AP PP 1 (RowC W W.heap.size)) (hPP:∀b,b<n→PP.getD b []=Yf (P b)) (hPl:PP.length=n) (g:GrOk n O P) (n1:1≤n) (n2:n≤64) (hOl:O.length≤64) (hPn:∀b,(P b).length≤64) :
 Calls Tryz.prog 93 #[.slice AO O.length co,.slice AP n cp,.int .i64 (n:Int)] w fun e w'=>∃gn,e=.returned (.slice (some ⟨gn,0,none⟩) n n)∧∃L,Hid (NearOk n O P L)∧
  w'.ownsRow w.heap.size 3 1 (.slice (some ⟨gn,0,none⟩) n n) n (YaN (L.set 0 none))∧Below w.heap.size w w':=by
 have G:=Lh g;have HPP:=Lh hPP;have hWs:=hW.size;have hO0:0<O.length:=by obtain⟨r,hr⟩:=g.hd;rw[hr];simp
 have hil:(Yf O).length=O.length:=by simp[Yf]
 obtain⟨bo,oo,rfl,hbo,hOc⟩:=hO.first (by rw[hil];exact hO0);replace hOc:∀i,i<O.length→W.cell? ⟨bo,oo+i,none⟩=some (.int .i64 ((O.getD i 0:Nat):Int)):=fun i hi=>by
  rw[hOc i (by rw[hil];exact hi)];simp[ith,Yf,List.getD,hi]
 replace hOc:=Lh hOc;have hOm:=Lh (fun i (hi:i<O.length)=>g.lt _ (show O.getD i 0∈O by rw[YL hi];exact List.getElem_mem hi));obtain⟨bp,op,rfl,hbp,hPc⟩:=hP.rows ZO
 replace hPc:=Lh (show ∀b,b<n→∃A c,W.cell? ⟨bp,op+b,none⟩=some (.slice A (P b).length c)∧(P b).length≤c∧Rd W.heap.size A (Yf (P b)) 1 (Yk W)from fun b hb=>by
  obtain⟨A,c,h1,h2,h3⟩:=hPc b ZO;rw[hPP b hb]at h1 h2 h3
  exact⟨A,c,by simpa[Yf]using h1,by simpa[Yf]using h2,h3⟩)
 clear g hPP hO hP HPP;go_enter Tryz.func93,Tryz.ntmps93;go_wp2_with fail;refine(YfC (x:=-1) ZS (cell_of_row _ _ 0 _ _ _ (heap_alloc_new w _)) n1 n2).mono ?_;rintro e w1 ⟨gn,rfl,ho1,hb1⟩;go_wp2_with fail;refine(YfC (x:=-1) ZS (cell_of_row _ _ 0 _ _ _ (heap_alloc_new w1 _)) n1 n2).mono ?_;rintro e w2 ⟨ga,rfl,ho2,hb2⟩;go_wp2_with fail
 go_loopw[25] (fun i wr=>∃k:Nat,i=.int .i64 k∧k≤O.length∧NI w wr n gn ga w2.heap.size (List.replicate n none) (atO n O k)) (fun i _=>O.length-(intOf i).toNat)
 case atStart=>
  have e1:=hb1.size;have e2:=hb2.size;simp at e1 e2;have hbn:=hb2.mono (B':=w1.heap.size) ZS;have g1:=ho1.lt _ rfl;have g2:=ho2.lt _ rfl;simp at g1 g2;have hw1:Below w.heap.size w w1:=BL;have hw2:Below w.heap.size w w2:=BL;have hon:=Yu (Yu (Yu (Yc4 ho1 (B':=w.heap.size) ZS) ((Br w1.heap.size w1).alloc (Nr _) (.cells #[.int .i64 (-1)] 3))) (hb2.mono ZS)) ((Br w2.heap.size w2).alloc (Nr _) (.cells #[.slice (some ⟨gn,0,none⟩) n n,.slice (some ⟨ga,0,none⟩) n n] 171));have hoa:=Yu (Yc4 ho2 (B':=w.heap.size) ZX) ((Br w2.heap.size w2).alloc (Nr _) (.cells #[.slice (some ⟨gn,0,none⟩) n n,.slice (some ⟨ga,0,none⟩) n n] 171));obtain⟨c0,c1,c2⟩:=box2 (Br (w2.heap.size+1) (w2.alloc (.cells #[.slice (some ⟨gn,0,none⟩) n n,.slice (some ⟨ga,0,none⟩) n n] 171)));refine⟨0,rfl,Nz _,⟨BL,by simpa[YaN,YN]using hon,by simpa[YaN,YN,Yly]using hoa,c0,c1,c2,ZO,ZO,ZO⟩⟩
 case round=>as_aux_lemma=>
  obtain⟨k,rfl,hk,hI⟩:=hrel;obtain⟨q0,q1,q2,q3,q4,d1,d2,d3,d4,d5,d6⟩:=hI.facts;have hWr:=hW.trans (hI.hb.mono hWs)
  by_cases hlt:k<O.length
  · have hc:=(hWr.cell (p:=⟨bo,oo+k,none⟩) hbo).trans (hOc.out k hlt)
    have hbo':=Nt hbo hWr.size;have hbn:=hOm.out k hlt;have hc1:=hI.c1;have hca:=YbS hI.ha YfA hbn;have hst:=hI.setA (i:=O.getD k 0) (o:=some k);rw[← Ylz]at hst;generalize O.getD k 0=b at *;have HS:=Lh hst;have hfz:=q4 b;clear hst;go_wp2;go_roundw
    case rel=>exact⟨k+1,ZN,ZO,HS.out⟩
    case measure=>simp[intOf];omega
  · obtain rfl:k=O.length:=by omega
    have hc0:=hI.c0;have hcn:=YbS hI.hn ZS (show 0<n from ZO);have hfz:=q3 0;have hst:=hI.setN (i:=0) (o:=some 0);obtain⟨L0,hL0⟩:∃L0:List (Option Nat),L0=(List.replicate n none).set 0 (some 0):=⟨_,rfl⟩;obtain⟨AT,hAT⟩:∃AT,AT=atO n O O.length:=⟨_,rfl⟩;rw[← hL0,← hAT]at hst;have HI:=Lh hst;have HL0:=Lh hL0;have HAT:=Lh hAT;clear hst hL0 hAT hI;go_wp2
    go_loopg[10] (2*phi n O L0+1) (fun gk v10 wr=>∃L m,v10=.bool m∧Hid (QInv (·∈O) (pz n O) (fun a b=>a∈P b) (fnO L) 1∧L.length=n∧fnO L 0=some 0∧(m=false→NearOk n O P L)∧2*phi n O L+(if m=true then 1 else 0)≤gk)∧NI w wr n gn ga w2.heap.size L AT)
    case atStart=>
     have e0:fnO L0 0=some 0:=by rw[HL0.out];exact Yc2 ZX
     exact⟨L0,true,rfl,⟨QInv.start G.out.gok e0 (fun b hb=>by rw[HL0.out,Yaz hb];exact Yhp),by rw[HL0.out];simp,e0,(fun h=>by cases h),ZS⟩,HI.out⟩
    case round=>as_aux_lemma=>
     clear hc0 hcn hfz q0 q1 q2 q3 q4 d1 d2 d3 d4 d5 d6 hWr HI;obtain⟨L,m,rfl,HD,hI⟩:=hrel;obtain⟨q0,q1,q2,q3,q4,d1,d2,d3,d4,d5,d6⟩:=hI.facts;have hWr:=hW.trans (hI.hb.mono hWs);have hc0:=hI.c0;have hc1:=hI.c1;have hLn:=HD.out.2.1;cases m
     · have hcn:=YbS hI.hn hLn (show 0<n from ZO)
       have hfz:=q3 0;have hst:=Lh (hI.setN (i:=0) (o:=none));have HK:=Lh (HD.out.2.2.2.1 rfl);go_wp2;go_ret;exact⟨gn,rfl,L,HK,hst.out.hn,hst.out.hb⟩
     have HQ:=Lh (NMid.start G.out HD.out.1 hLn HD.out.2.2.1);obtain⟨gk',rfl⟩:∃f,gk=f+1:=⟨gk-1,by have:=HD.out.2.2.2.2;simp at this;omega⟩;have HG:=Lh (show 2*phi n O L≤gk' by have:=HD.out.2.2.2.2;simp at this;omega);clear HD
     by_cases hco1:co=1
     · subst hco1
       have hol:O.length=1:=by omega
       have HOL:=Lh hol;have hol1:¬(0:Int)<((O.length-1:Nat):Int):=by omega
       clear hol;go_wp2;refine wp_loop_once ?_;go_wp2
       go_roundg gk'
       case measure=>omega
       case rel=>
        obtain⟨h1,h2,h3,h4,h5⟩:=HQ.out;refine⟨L,false,rfl,⟨h1.next (fun b hb=>by have:=YdC G.out hb;have:=HOL.out;omega),h2,h3,fun hf=>NearOk.of G.out (by rw[HOL.out];exact h1) h2 h3 ?_,?_⟩,hI⟩
        · rw[HOL.out];exact(h4 hf).2
        · have:=HG.out;simp;omega
     go_wp2
     go_loopw[10,43] (fun s10 i wr=>∃(j:Nat) (L':List (Option Nat)) (m':Bool),i=.int .i64 j∧s10=.bool m'∧j+1≤O.length∧Hid (NMid n O P L (j+1) L' m')∧NI w wr n gn ga w2.heap.size L' AT) (fun _ i _=>O.length-(intOf i).toNat)
     case atStart=>exact⟨0,L,false,rfl,rfl,hO0,HQ,hI⟩
     case round=>as_aux_lemma=>
      clear q0 q1 q2 q3 q4 d1 d2 d3 d4 d5 d6 hWr hI hc0 hc1 HQ;obtain⟨j,L',m',rfl,rfl,hj,HM,hI⟩:=hrel;obtain⟨q0,q1,q2,q3,q4,d1,d2,d3,d4,d5,d6⟩:=hI.facts;have hWr:=hW.trans (hI.hb.mono hWs);have hc0:=hI.c0;have hc1:=hI.c1
      by_cases hjl:j+1<O.length
      · have hc:=(hWr.cell (p:=⟨bo,oo+(j+1),none⟩) hbo).trans (hOc.out (j+1) hjl)
        rw[show oo+(j+1)=oo+1+j from ZO]at hc;have hbo':=Nt hbo hWr.size;have hbp':=Nt hbp hWr.size;have hbn:=hOm.out (j+1) hjl;have hjl2:j<O.length-1:=by omega
        have hjl3:(j:Int)<((O.length-1:Nat):Int):=by omega
        have HB:=Lh (show O.getD (j+1) 0∈O by rw[YL hjl];exact List.getElem_mem hjl);have HPZ:=Lh (YdB G.out hjl);generalize O.getD (j+1) 0=b at *;obtain⟨A9,c9,hcp,k9,r9⟩:=hPc.out b hbn;replace hcp:=(hWr.cell (p:=⟨bp,op+b,none⟩) hbp).trans hcp;have hpn:=hPn b;have h0b:=Lh (show b≠0 from fun e=>by have:=HPZ.out;rw[e,G.out.gok.at0]at this;omega);have hLn':=HM.out.2.1;obtain⟨wq,rfl⟩:∃wq:World,wq=wr:=⟨_,rfl⟩;go_wp2
        go_loopw[13,52] (fun s13 i wr=>∃(k:Nat) (o:Option Nat) (x:Int),i=.int .i64 k∧s13=.int .i64 x∧Hid (x=YN o)∧k≤(P b).length∧Hid (Best (fnO L') ((P b).take k) o)∧NI w wr n gn ga w2.heap.size L' AT) (fun _ i _=>(P b).length-(intOf i).toNat)
        case atStart=>exact⟨0,none,-1,rfl,rfl,rfl,Nz _,(fun a ha=>by simp at ha),hI⟩
        case round=>as_aux_lemma=>
         clear q0 q1 q2 q3 q4 d1 d2 d3 d4 d5 d6 hWr hI hc0 hc1 hc hcp hbo' hbp';obtain⟨k,o,x,rfl,rfl,HX,hk,HBst,hI⟩:=hrel;obtain⟨q0,q1,q2,q3,q4,d1,d2,d3,d4,d5,d6⟩:=hI.facts;have hWr:=hW.trans (hI.hb.mono hWs);have hc0:=hI.c0;have hc1:=hI.c1
         by_cases hkl:k<(P b).length
         · obtain⟨b9,o9,rfl,hb9,hc9⟩:=r9.int hWr (i:=k) (by simpa[Yf]using hkl)
           have hpe:ith (Yf (P b)) k=(((P b).getD k 0:Nat):Int):=by simp[ith,Yf,List.getD,hkl]
           rw[hpe]at hc9;clear hpe;have hpm:(P b).getD k 0∈P b:=by rw[YL hkl];exact List.getElem_mem hkl
           have hpb:=G.out.plt b _ hpm;have htk:=Lh (show(P b).take (k+1)=(P b).take k++[(P b).getD k 0] by rw[List.take_succ_eq_append_getElem hkl,YL hkl]);clear hpm;generalize (P b).getD k 0=p at *;have hca:=YbS hI.ha (by rw[HAT.out];exact YfA) hpb;have hcn:=YbS hI.hn hLn' hpb;have hav:fnO AT p=if pl n O p=0 then none else some (pz n O p):=by rw[HAT.out];exact Yhm hpb
           by_cases hpn:fnO L' p=none
           ·
            have HPN:=Lh hpn;rw[hpn]at hcn;replace hcn:wr.cell? ⟨gn,p,none⟩=some (.int .i64 (-1)):=hcn;clear hpn
            by_cases hap:pl n O p=0
            · rw[if_pos hap]at hav
              rw[hav]at hca;replace hca:wr.cell? ⟨ga,p,none⟩=some (.int .i64 (-1)):=hca;clear hav hap;go_wp2;go_roundw
              case rel=>exact⟨k+1,o,x,ZN,rfl,HX,ZO,by unfold Hid;rw[htk.out];exact HBst.out.skip HPN.out,hI⟩
              case measure=>simp[intOf];omega
            · rw[if_neg hap]at hav
              rw[hav]at hca;replace hca:wr.cell? ⟨ga,p,none⟩=some (.int .i64 ((pz n O p:Nat):Int)):=hca;generalize pz n O p=y at *;have hy:((y:Int)==-1)=false:=by rw[beq_eq_false_iff_ne];omega
              clear hav hap;go_wp2;go_roundw
              case rel=>exact⟨k+1,o,x,ZN,rfl,HX,ZO,by unfold Hid;rw[htk.out];exact HBst.out.skip HPN.out,hI⟩
              case measure=>simp[intOf];omega
           · have HPN:=Lh hpn
             have hpO:=HM.out.1.tok.rr G.out.gok hpn;have hap:pl n O p≠0:=by
              obtain⟨i,hi,he⟩:=List.mem_iff_getElem.1 hpO;have:=Yei G.out.nod G.out.lt hi;rw[he]at this;omega
             rw[if_neg hap]at hav;rw[hav]at hca;replace hca:wr.cell? ⟨ga,p,none⟩=some (.int .i64 ((pz n O p:Nat):Int)):=hca;generalize hyy:pz n O p=y at *;have hy:((y:Int)==-1)=false:=by rw[beq_eq_false_iff_ne];omega
             obtain⟨q,hq⟩:∃q,fnO L' p=some q:=by
              cases h:fnO L' p with
              |none=>exact absurd h hpn
              |some q=>exact⟨q,rfl⟩
             rw[hq]at hcn;replace hcn:wr.cell? ⟨gn,p,none⟩=some (.int .i64 (q:Int)):=hcn;have hqn:((q:Int)==-1)=false:=by rw[beq_eq_false_iff_ne];omega
             clear hav hap hpn hq hyy hpO;cases o with
             |none=>
              obtain rfl:x=-1:=HX.out;go_wp2;go_roundw
              case rel=>exact⟨k+1,some p,p,ZN,rfl,rfl,ZO,by unfold Hid;rw[htk.out];exact HBst.out.first HPN.out,hI⟩
              case measure=>simp[intOf];omega
             |some v=>
              obtain rfl:x=(v:Int):=HX.out;have hvn:((v:Int)==-1)=false:=by rw[beq_eq_false_iff_ne];omega
              have HL:=Lh (show AT.length=n by rw[HAT.out];exact YfA)
              have HR:=Lh (fun b (hb:fnO L' b≠none)=>show b∈O∧b<n∧fnO AT b=some (pz n O b) by
               have hbO:=HM.out.1.tok.rr G.out.gok hb;have hbn:=G.out.lt b hbO;refine⟨hbO,hbn,?_⟩;rw[HAT.out,Yhm hbn,if_neg];obtain⟨i,hi,he⟩:=List.mem_iff_getElem.1 hbO;have:=Yei G.out.nod G.out.lt hi;rw[he]at this
               omega)
              go_wp2_with fail;refine(Ylx (RowO.of_own hI.hn hLn') (RowO.of_own hI.ha HL.out) hLn' HL.out HM.out.1.tok G.out.gok.at0 (fun _ _=>G.out.gok.inj) HR.out v p HBst.out.1 HPN.out).mono ?_;rintro e w9 ⟨m,rfl,hm,hmx,hb9⟩;clear hc9;go_wp2;go_roundw
              case rel=>exact⟨k+1,some m,m,ZN,rfl,rfl,ZO,by unfold Hid;rw[htk.out];exact HBst.out.more HPN.out hm hmx,hI.below hb9⟩
              case measure=>simp[intOf];omega
         ·
          obtain rfl:k=(P b).length:=by omega
          have hBst:=HBst.out;rw[List.take_length]at hBst;have hfw:=G.out.gok.fwd HB.out h0b.out;cases o with
          |none=>
           obtain⟨a,h1,h2,h3⟩:=hfw;exact absurd (hBst a h2) (HM.out.1.done h1 (by have:=HPZ.out;omega))
          |some v=>
           obtain rfl:x=(v:Int):=HX.out;have hmt:=Lh (hBst.meets (P:=P) (fun hn=>HM.out.1.tok.rr G.out.gok hn));have hvl:Hid (pz n O v<pz n O b):=by
            obtain⟨a,h1,h2,h3⟩:=hfw;have:=HM.out.1.tok.le ((hBst.2.2 v).1 .refl a h2 (HM.out.1.done h1 (by have:=HPZ.out;omega)));unfold Hid;omega
           have hv0:=Lh hBst.1;have hcn:=YbS hI.hn hLn' hbn;have hfz:=q3 b;clear hBst hfw
           by_cases hsame:fnO L' b=some v
           · rw[hsame]at hcn
             replace hcn:wr.cell? ⟨gn,b,none⟩=some (.int .i64 (v:Int)):=hcn;have HS:=Lh hsame;clear hsame;go_wp2;go_roundw
             case rel=>exact⟨j+1,L',m',ZN,rfl,ZO,HM.out.keep G.out HB.out HPZ.out h0b.out HS.out hmt.out,hI⟩
             case measure=>simp[intOf];omega
           · have hst:=Lh (hI.setN (i:=b) (o:=some v))
             have hz:(YN (fnO L' b) !=(v:Int))=true:=by
              rw[bne_iff_ne];intro e;apply hsame;cases hq:fnO L' b with
              |none=>rw[hq]at e;simp[YN]at e
              |some q=>rw[hq]at e;simp[YN]at e;rw[show q=v from ZO]
             have HS:=Lh hsame;generalize YN (fnO L' b)=z at *;clear hsame;go_wp2;go_roundw
             case rel=>exact⟨j+1,L'.set b (some v),true,ZN,rfl,ZO,HM.out.move G.out HB.out HPZ.out h0b.out HS.out hmt.out hv0.out hvl.out,hst.out⟩
             case measure=>simp[intOf];omega
      · obtain hje:j+1=O.length:=by omega
        rw[hje]at HM;go_wp2
        go_roundg gk'
        case measure=>omega
        case rel=>
         obtain⟨h1,h2,h3,h4,h5⟩:=HM.out;refine⟨L',m',rfl,⟨h1.next (fun b hb=>YdC G.out hb),h2,h3,fun hf=>NearOk.of G.out h1 h2 h3 ?_,?_⟩,hI⟩
         · exact(h4 hf).2
         · have:=HG.out
           cases m' with
           |false=>rw[(h4 rfl).1];simp;omega
           |true=>have:=h5 rfl;simp;omega
end Go.Proofs.YtjlclkcmfokobaaGreatDoor
namespace Go.Proofs.YtjlclkcmfokobaaGreatDoor
open Go.RowKit
structure LvP (O:List Nat) (n:Nat) (N:Nat→Option Nat) (k:Nat) (V:List (Option Nat)):Prop where
 len:V.length=n
 zero:fnO V 0=some 0
 iff:∀{b},fnO V b≠none↔b∈O.take (k+1)
 up:∀{b j},b≠0→fnO V b=some j→∃p i,N b=some p∧fnO V p=some i∧j=i+1
 le:∀{b j},fnO V b=some j→j≤pz n O b
section
variable {n k b p i:Nat} {O:List Nat} {P:Nat→List Nat} {L V:List (Option Nat)}
theorem LvP.start(g:GrOk n O P)(n1:1≤n):LvP O n (fnO L) 0 ((List.replicate n none).set 0 (some 0)):=by
 obtain⟨r,hr⟩:=g.hd;have h0:fnO ((List.replicate n none).set 0 (some 0)) 0=some 0:=Yc2 ZX;have hne:∀{b},b≠0→fnO ((List.replicate n none).set 0 (some 0)) b=none:=fun h=>by rw[Yaz h];exact Yhp
 refine⟨ZS,h0,fun {b}=>?_,fun {b j} hb hj=>?_,fun {b j} hj=>?_⟩
 · by_cases hb:b=0
   · subst hb;rw[h0,hr];simp
   · rw[hne hb,hr];simp[hb]
 · rw[hne hb]at hj;cases hj
 · by_cases hb:b=0
   · subst hb;rw[h0]at hj;obtain rfl:=Option.some.inj hj;omega
   · rw[hne hb]at hj;cases hj
theorem LvP.turn(g:GrOk n O P)(t:NearOk n O P L)(h:LvP O n (fnO L) k V)(hk:k+1<O.length)(hb:O.getD (k+1) 0=b):b<n∧b≠0∧∃p i,fnO L b=some p∧p<n∧fnO V p=some i∧i<O.length∧LvP O n (fnO L) (k+1) (V.set b (some (i+1))):=by
 have hbm:b∈O:=by rw[← hb,YL hk];exact List.getElem_mem hk
 have hpb:pz n O b=k+1:=by rw[← hb];exact YdB g hk
 have h0:b≠0:=fun e=>by rw[e,g.gok.at0]at hpb;omega
 have hbn:=g.lt b hbm;cases hp:fnO L b with
 |none=>exact absurd hp (t.all hbm)
 |some p=>
  have hu:=t.tok.up h0 hp;obtain⟨q,hq,h1,h2⟩:=g.mem hu.2.1;have hpt:p∈O.take (k+1):=by
   rw[List.mem_take_iff_getElem];refine⟨q,by have:=hu.2.2.1;simp;omega,?_⟩;rw[← YL hq 0];exact h1
  cases hi:fnO V p with
  |none=>exact absurd hi (h.iff.2 hpt)
  |some i=>
   have hpn:=g.lt p hu.2.1;have hil:=h.le hi;have hbV:b<V.length:=by rw[h.len];exact hbn
   have hpne:p≠b:=fun e=>by have:=hu.2.2.1;rw[e]at this;omega
   have hnb:b∉O.take (k+1):=by
    intro hm;rw[List.mem_take_iff_getElem]at hm;obtain⟨j,hj,he⟩:=hm;have:=YdB g (i:=j) ZO;rw[YL ZO,he,hpb]at this;omega
   have hnone:fnO V b=none:=by
    cases hv:fnO V b with
    |none=>rfl
    |some x=>exact absurd (h.iff.1 (by rw[hv];simp)) hnb
   refine⟨hbn,h0,p,i,rfl,hpn,hi,ZO,by rw[List.length_set,h.len],?_,fun {c}=>?_,fun {c j} hc hj=>?_,fun {c j} hj=>?_⟩
   · rw[Yaz (fun e=>h0 e.symm)];exact h.zero
   · rw[List.take_succ_eq_append_getElem hk,List.mem_append,← h.iff,show O[k+1]=b by rw[← hb,YL hk]]
     by_cases e:c=b
     · subst e;rw[Yc2 hbV];simp
     · rw[Yaz e];simp[e]
   · by_cases e:c=b
     · subst e
       rw[Yc2 hbV]at hj;obtain rfl:=Option.some.inj hj;exact⟨p,i,hp,by rw[Yaz hpne];exact hi,rfl⟩
     · rw[Yaz e]at hj
       obtain⟨q',i',h3,h4,h5⟩:=h.up hc hj;refine⟨q',i',h3,?_,h5⟩;rw[Yaz (fun e2=>by rw[e2,hnone]at h4;cases h4)];exact h4
   · by_cases e:c=b
     · subst e
       rw[Yc2 hbV]at hj;obtain rfl:=Option.some.inj hj;have:=hu.2.2.1;omega
     · rw[Yaz e]at hj
       exact h.le hj
theorem LvP.fin(g:GrOk n O P)(h:LvP O n (fnO L) (O.length-1) V):LvOk (·∈O) (fnO L) (fnO V):=by
 obtain⟨r,hr⟩:=g.hd;refine⟨h.zero,h.up,fun {b}=>h.iff.trans ?_⟩;rw[List.take_of_length_le (by rw[hr];simp)]
end
end Go.Proofs.YtjlclkcmfokobaaGreatDoor
namespace Go.Proofs.YtjlclkcmfokobaaGreatDoor
open Go.RowKit
set_option maxRecDepth 100000
theorem Yhq{P:Program}(w:World){t ty:TypeId}(base:Nat)(e:TypeId)(bytes:Nat)(ht:P.underlying t=some (.slice e)){z:Value}(hinf:(P.info? e).map (fun i=>(i.zero,i.size,i.bytes))=some (some z,1,bytes))(hz1:z.cells.size=1)
 (v:Value) (n:Nat) (xs:List Value) (hown:w.ownsRow base e 1 v n xs) (u:Value) (h1:u.oneCell'=true) (h63:n<1048576) (hby:bytes≤64) (hbase:base≤w.heap.size) :
 ∃v' w',(Builtin.append_ #[t,t] ty #[v,.slice (some ⟨w.heap.size,0,none⟩) 1 1]).run P (w.alloc (.cells #[u] e))=.ok v' w'∧w'.ownsRow base e 1 v' (n+1) (xs++[u])∧(w.alloc (.cells #[u] e)).grownBy w' v.ownBlock∧
  ∀k,v'.ownBlock=some k→v.ownBlock=some k∨w.heap.size<k:=by
 obtain⟨i,hi,hz,hsz,hb⟩:=info_parts hinf;have hbytes:(n+1)*bytes≤140737488355328:=by
  calc(n+1)*bytes≤1048576*64:=Nat.mul_le_mul ZO hby
   _≤140737488355328:=by decide
 obtain⟨v',w',hr,h2,h3,-,h4⟩:=run_append_own_at (P:=P) (w:=w.alloc (.cells #[u] e)) base t ty e i z 1 bytes ht hi hz hsz hb hz1 ZD v n xs (hown.alloc (.cells #[u] e)) ⟨w.heap.size,0,none⟩ 1 1 [u] rfl (Ye3 w u e) (by simpa using h1) (by unfold maxLen;omega) hbytes ZX;refine⟨v',w',hr,h2,h3,fun k hk=>?_⟩;rcases h4 with e|e
 · exact .inl (by rw[← e];exact hk)
 · rw[e]at hk
   cases hk;exact .inr ZS
theorem Yc5{P:Program}{o:Oper}{a:Act}{w w':World}{K:Act→World→Prop}{Q:Exit→Act→World→Prop}(s x:Operand)(t:TypeId)(ho:o.op=.call { callee:=.builtin .append,args:=#[s,x],argTypes:=#[t,t] })
 {v xv v':Value} (hs:a.eval s=v) (hx:a.eval x=xv) (hrun:(Builtin.append_ #[t,t] o.type #[v,xv]).run P w=.ok v' w') (hK:K (a.put o.dst v') w'):o.wp P a w K Q:=by
 unfold Oper.wp execOp;simp only[ho,resolve,invoke,builtin,Sem.run_bind,Sem.run_pure,Result.andThen_ok,List.map_toArray,List.map_cons,List.map_nil,hs,hx,hrun];exact hK
theorem OwnRows.other{w:World}{base g:Nat}{ti te:TypeId}{av:Nat→Prop}{xss:List (List Int)}(h:OwnRows w base ti te g av xss){a:Addr}(hg:a.block≠g)(ha:av a.block)(v:Value):OwnRows (w.setCell a v) base ti te g av xss:=by
 obtain⟨vs,h1,h2,h3,h4,h5⟩:=h;exact⟨vs,h1,ownsRow_setCell_other h2 (by simpa[Value.ownBlock]using fun e=>hg e.symm) v,fun i vi xs hi hx=>ownsRow_setCell_other (h3 i vi xs hi hx) (fun e=>h5 i vi a.block hi e ha) v,h4,h5⟩
theorem OwnRows.row{w:World}{base g:Nat}{ti te:TypeId}{av:Nat→Prop}{xss:List (List Int)}(h:OwnRows w base ti te g av xss){c:Nat}(hc:c<xss.length){v:Value}(hv:w.cell? ⟨g,c,none⟩=some v) :
 w.ownsRow base te 1 v (xss.getD c []).length ((xss.getD c []).map (Value.int .i64))∧∀b,v.ownBlock=some b→¬av b:=by
 obtain⟨vs,h1,h2,h3,h4,h5⟩:=h;have hvc:vs[c]?=some v:=by
  have:=h2.cellAt c ZO;rw[hv]at this;exact this.symm
 exact⟨h3 c v _ hvc (by simp[hc]),fun b hb=>h5 c v b hvc hb⟩
def avT(gn gl gf tb:Nat):Nat→Prop:=fun k=>k=gn∨k=gl∨k=gf∨k=tb
structure T1 (wb wr:World) (n gn gl gk gf tb:Nat) (L0 V:List (Option Nat)) (K:List (List Int)):Prop where
 hb:Below wb.heap.size wb wr
 hn:RowO wr gn L0
 hl:wr.ownsRow wb.heap.size 3 1 (.slice (some ⟨gl,0,none⟩) n n) n (YaN V)
 hk:OwnRows wr wb.heap.size 23 3 gk (avT gn gl gf tb) K
 hf:wr.ownsRow wb.heap.size 23 1 (.slice (some ⟨gf,0,none⟩) n n) n (List.replicate n (.slice none 0 0))
 ht:tb<wr.heap.size
 c0:wr.cell? ⟨tb,0,none⟩=some (.slice (some ⟨gn,0,none⟩) n n)
 c1:wr.cell? ⟨tb,1,none⟩=some (.slice (some ⟨gl,0,none⟩) n n)
 c2:wr.cell? ⟨tb,2,none⟩=some (.slice (some ⟨gk,0,none⟩) n n)
 c3:wr.cell? ⟨tb,3,none⟩=some (.slice (some ⟨gf,0,none⟩) n n)
 d:gn≠gl∧gn≠gk∧gn≠gf∧gn≠tb∧gl≠gk∧gl≠gf∧gl≠tb∧gk≠gf∧gk≠tb∧gf≠tb
section
variable {wb wr w' w3:World} {n gn gl gk gf tb i c:Nat} {L0 V:List (Option Nat)} {K:List (List Int)} {o:Option Nat}
theorem T1.below(h:T1 wb wr n gn gl gk gf tb L0 V K)(hb:Below wr.heap.size wr w'):T1 wb w' n gn gl gk gf tb L0 V K:=
 ⟨h.hb.trans (hb.mono h.hb.size),h.hn.below hb,Yu h.hl hb,h.hk.below hb,Yu h.hf hb,Nt h.ht hb.size,(hb.cell (p:=⟨tb,0,none⟩) h.ht).trans h.c0,(hb.cell (p:=⟨tb,1,none⟩) h.ht).trans h.c1,(hb.cell (p:=⟨tb,2,none⟩) h.ht).trans h.c2,(hb.cell (p:=⟨tb,3,none⟩) h.ht).trans h.c3,h.d⟩
theorem T1.setL(h:T1 wb wr n gn gl gk gf tb L0 V K):T1 wb (wr.setCell ⟨gl,i,none⟩ (.int .i64 (YN o))) n gn gl gk gf tb L0 (V.set i o) K:=by
 obtain⟨d1,d2,d3,d4,d5,d6,d7,d8,d9,d10⟩:=h.d;have far:∀g j,g≠gl→(wr.setCell ⟨gl,i,none⟩ (.int .i64 (YN o))).cell? ⟨g,j,none⟩=wr.cell? ⟨g,j,none⟩:=fun g j hg=>World.cell?_setCell_far _ _ _ _ (by simpa using fun e=>hg e.symm)
 refine⟨h.hb.setCell (p:=⟨gl,i,none⟩) (h.hl.lt _ rfl).1 _,⟨by simpa using h.hn.1,fun j hj=>by rw[far gn j d1];exact h.hn.2 j hj⟩,?_,h.hk.other (a:=⟨gl,i,none⟩) d5 (.inr (.inl rfl)) _,ownsRow_setCell_other h.hf (a:=⟨gl,i,none⟩) (by simpa[Value.ownBlock]using fun e=>d6 e.symm) _,by simpa using h.ht,?_,?_,?_,?_,h.d⟩
 · rw[← YfB];exact(h.hl.stored i _).1
 · rw[far tb 0 (fun e=>d7 e.symm)];exact h.c0
 · rw[far tb 1 (fun e=>d7 e.symm)];exact h.c1
 · rw[far tb 2 (fun e=>d7 e.symm)];exact h.c2
 · rw[far tb 3 (fun e=>d7 e.symm)];exact h.c3
theorem T1.addK(h:T1 wb wr n gn gl gk gf tb L0 V K)(hKn:K.length=n)(hc:c<n){v v':Value}(hv:wr.cell? ⟨gk,c,none⟩=some v)
 (hown:w3.ownsRow wb.heap.size 3 1 v' ((K.getD c []).length+1) ((K.getD c []).map (Value.int .i64)++[.int .i64 (i:Int)])) (hg:(wr.alloc (.cells #[.int .i64 (i:Int)] 3)).grownBy w3 v.ownBlock)
 (hfr:∀k,v'.ownBlock=some k→v.ownBlock=some k∨wr.heap.size<k) :
 T1 wb (w3.setCell ⟨gk,c,none⟩ v') n gn gl gk gf tb L0 V (Y2 i K c)∧w3.cell? ⟨tb,2,none⟩=some (.slice (some ⟨gk,0,none⟩) n n)∧w3.cell? ⟨gk,c,none⟩=some v∧w3.frozen? ⟨gk,c,none⟩=false∧gk<w3.heap.size∧tb<w3.heap.size:=by
 obtain⟨d1,d2,d3,d4,d5,d6,d7,d8,d9,d10⟩:=h.d;have hrow:=h.hk.row ZO hv;have hlts:∀k,avT gn gl gf tb k→k<wr.heap.size:=by
  rintro k (e|e|e|e)
  · rw[e];exact h.hn.1
  · rw[e];exact(h.hl.lt _ rfl).2
  · rw[e];exact(h.hf.lt _ rfl).2
  · rw[e];exact h.ht
 obtain⟨h1,h2⟩:=h.hk.step ZD ZO hv hown hg hfr (fun k hk ha=>by have:=hlts k ha;omega);obtain⟨m1,m2,m3⟩:=h.hk.mid ZD ZO hv hg;have ha:Below wr.heap.size wr (wr.alloc (.cells #[.int .i64 (i:Int)] 3)):=(Br _ _).alloc (Nr _) _;have kept:∀k,avT gn gl gf tb k→w3.heap[k]?=wr.heap[k]?:=fun k hk=>(hg.block k (by have:=hlts k hk;simp;omega) (fun e=>hrow.2 k e.symm hk)).trans (Below.heap_alloc wr _ k (hlts k hk))
 have far:∀g j,avT gn gl gf tb g→g≠gk→(w3.setCell ⟨gk,c,none⟩ v').cell? ⟨g,j,none⟩=wr.cell? ⟨g,j,none⟩:=fun g j hg hne=>(World.cell?_setCell_far _ _ _ _ (by simpa using fun e=>hne e.symm)).trans (World.cell?_of_block (kept g hg))
 have htk:w3.cell? ⟨tb,2,none⟩=wr.cell? ⟨tb,2,none⟩:=World.cell?_of_block (kept tb (.inr (.inr (.inr rfl))));have hsz:tb<w3.heap.size:=by have:=hg.size;have:=h.ht;simp at *;omega
 have keepOwn:∀{ty:TypeId} {g:Nat} {xs:List Value},avT gn gl gf tb g→g≠gk→wr.ownsRow wb.heap.size ty 1 (.slice (some ⟨g,0,none⟩) n n) n xs→(w3.setCell ⟨gk,c,none⟩ v').ownsRow wb.heap.size ty 1 (.slice (some ⟨g,0,none⟩) n n) n xs:=by
  intro ty g xs hg' hne ho;refine ownsRow_setCell_other (Yan ho ha hg (fun b hb hb'=>?_)) (a:=⟨gk,c,none⟩) (by simpa[Value.ownBlock]using hne) v';cases hb;exact hrow.2 g hb' hg'
 refine⟨⟨?_,⟨?_,fun j hj=>?_⟩,keepOwn (.inr (.inl rfl)) d5 h.hl,h1,keepOwn (.inr (.inr (.inl rfl))) (fun e=>d8 e.symm) h.hf,by simpa using hsz,?_,?_,?_,?_,h.d⟩,htk.trans h.c2,m1,m2,m3,hsz⟩
 · exact(Ybl hrow.1 hg h.hb (Nr _) h.hb.size).setCell (p:=⟨gk,c,none⟩) h.hk.blk.1 _
 · have:=hg.size;have:=h.hn.1;simp at *;omega
 · rw[far gn j (.inl rfl) d2];exact h.hn.2 j hj
 · rw[far tb 0 (.inr (.inr (.inr rfl))) (fun e=>d9 e.symm)];exact h.c0
 · rw[far tb 1 (.inr (.inr (.inr rfl))) (fun e=>d9 e.symm)];exact h.c1
 · rw[far tb 2 (.inr (.inr (.inr rfl))) (fun e=>d9 e.symm)];exact h.c2
 · rw[far tb 3 (.inr (.inr (.inr rfl))) (fun e=>d9 e.symm)];exact h.c3
end
theorem Yhr{L:List (Option Nat)}{b:Nat}(hb:b<L.length):fnO (L.set b none) b=none:=by simp[fnO,List.getD,hb]
def Y7(L0:List (Option Nat)):Nat→List (List Int)
 |0=>List.replicate L0.length []
 |i+1=>match fnO L0 i with
  |none=>Y7 L0 i
  |some p=>Y2 i (Y7 L0 i) p
def Ybf(L0:List (Option Nat))(p:Nat):Nat→List Nat
 |0=>[]
 |i+1=>if fnO L0 i=some p then Ybf L0 p i++[i] else Ybf L0 p i
theorem Ycy{L0:List (Option Nat)}:∀i,(Y7 L0 i).length=L0.length
 |0=>by simp[Y7]
 |i+1=>by
  rw[Y7];split
  · exact Ycy i
  · rw[YfE];exact Ycy i
theorem YfH{L0:List (Option Nat)}{p:Nat}(hp:p<L0.length):∀i,(Y7 L0 i).getD p []=Yf (Ybf L0 p i)
 |0=>by simp[Y7,Ybf,Yf,List.getD,hp]
 |i+1=>by
  have ih:=YfH hp i;rw[Y7,Ybf];cases h:fnO L0 i with
  |none=>simpa using ih
  |some q=>
   by_cases e:q=p
   · subst e
     simp[Y2,List.getD,Ycy,hp,Yf]at ih ⊢;exact ih
   · have:¬(some q=some p):=fun h=>e (Option.some.inj h)
     rw[if_neg this];simp only[Y2];rw[List.getD,List.getElem?_set_ne e,← List.getD_eq_getElem?_getD];exact ih
theorem Yhs{L0:List (Option Nat)}{p b:Nat}:∀{i},b∈Ybf L0 p i↔b<i∧fnO L0 b=some p
 |0=>by simp[Ybf]
 |i+1=>by
  rw[Ybf];split
  · rename_i h
    rw[List.mem_append,Yhs,List.mem_singleton];constructor
    · rintro(⟨h1,h2⟩|rfl)
      · exact⟨ZO,h2⟩
      · exact⟨ZO,h⟩
    · rintro⟨h1,h2⟩
      rcases Nat.lt_succ_iff_lt_or_eq.1 h1 with h|h
      · exact .inl ⟨h,h2⟩
      · exact .inr h
  · rename_i h
    rw[Yhs];constructor
    · rintro⟨h1,h2⟩;exact⟨ZO,h2⟩
    · rintro⟨h1,h2⟩
      rcases Nat.lt_succ_iff_lt_or_eq.1 h1 with h3|h3
      · exact⟨h3,h2⟩
      · subst h3;exact absurd h2 h
theorem YfI{L0:List (Option Nat)}{p:Nat}:∀i,(Ybf L0 p i).length≤i
 |0=>by simp[Ybf]
 |i+1=>by
  have:=YfI (L0:=L0) (p:=p) i;rw[Ybf];split
  · exact ZX
  · exact ZO
end Go.Proofs.YtjlclkcmfokobaaGreatDoor
namespace Go.Proofs.YtjlclkcmfokobaaGreatDoor
open Go.RowKit
def PA(L0:List (Option Nat))(N:Nat→Option Nat)(y b:Nat):Prop:=∃q,fnO L0 b=some q∧Anc N y q
def SF(O:List Nat)(P:Nat→List Nat)(L0:List (Option Nat))(N:Nat→Option Nat)(l:List Nat)(y c:Nat):Prop:=c∈l∧∃p,p∈P c∧p∈O∧Anc N y p∧¬PA L0 N y c
def SP(O:List Nat)(P:Nat→List Nat)(L0:List (Option Nat))(N:Nat→Option Nat)(l:List Nat)(b:Nat)(ps:List Nat)(y c:Nat):Prop:=SF O P L0 N l y c∨c=b∧∃p,p∈ps∧p∈O∧Anc N y p∧¬PA L0 N y b
def SC(O:List Nat)(P:Nat→List Nat)(L0:List (Option Nat))(N:Nat→Option Nat)(l:List Nat)(b:Nat)(ps:List Nat)(p:Nat)(cur:Option Nat)(y c:Nat):Prop:=SP O P L0 N l b ps y c∨c=b∧Anc N y p∧¬∃x,cur=some x∧Anc N y x
structure FrI (n:Nat) (S:Nat→Nat→Prop) (X:List (List Int)):Prop where
 len:X.length=n
 nod:∀x,x<n→(X.getD x []).Nodup
 mem:∀x,x<n→∀z:Int,z∈X.getD x []↔∃b:Nat,z=b∧S x b
section
variable {n x b c y p q:Nat} {S S':Nat→Nat→Prop} {X:List (List Int)} {O l ps:List Nat} {P:Nat→List Nat} {L L0:List (Option Nat)} {N:Nat→Option Nat} {cur:Option Nat}
theorem FrI.congr(h:FrI n S X)(e:∀x b,x<n→(S x b↔S' x b)):FrI n S' X:=
 ⟨h.len,h.nod,fun x hx z=>(h.mem x hx z).trans ⟨fun⟨b,h1,h2⟩=>⟨b,h1,(e x b hx).1 h2⟩,fun⟨b,h1,h2⟩=>⟨b,h1,(e x b hx).2 h2⟩⟩⟩
theorem FrI.start(hS:∀x b,¬S x b):FrI n S (List.replicate n []):=by
 have e:∀x,(List.replicate n ([]:List Int)).getD x []=[]:=fun x=>by
  simp only[List.getD,List.getElem?_replicate];split<;>rfl
 exact⟨ZS,fun x _=>by rw[e];exact List.nodup_nil,fun x _ z=>by rw[e];simp[hS]⟩
theorem FrI.has(h:FrI n S X)(hx:x<n):(X.getD x []).contains (b:Int)=true↔S x b:=by
 rw[List.contains_iff_mem,h.mem x hx];constructor
 · rintro⟨c,h1,h2⟩
   obtain rfl:b=c:=by omega
   exact h2
 · exact fun h=>⟨b,rfl,h⟩
theorem FrI.add(h:FrI n S X)(hx:x<n)(hs:¬S x b)(e:∀y c,S' y c↔S y c∨y=x∧c=b):FrI n S' (X.set x (X.getD x []++[(b:Int)])):=by
 have hxl:x<X.length:=by rw[h.len];exact hx
 have hse:(X.set x (X.getD x []++[(b:Int)])).getD x []=X.getD x []++[(b:Int)]:=by simp[List.getD,hxl]
 have hne:∀y,y≠x→(X.set x (X.getD x []++[(b:Int)])).getD y []=X.getD y []:=fun y hy=>by
  rw[List.getD,List.getElem?_set_ne (fun e=>hy e.symm),← List.getD_eq_getElem?_getD]
 refine⟨by rw[List.length_set,h.len],fun y hy=>?_,fun y hy z=>?_⟩
 · by_cases hyx:y=x
   · subst hyx
     rw[hse,List.nodup_append];refine⟨h.nod y hy,ZS,fun z hz z' hz'=>?_⟩;simp at hz';subst hz';rintro rfl;obtain⟨c,h1,h2⟩:=(h.mem y hy _).1 hz;obtain rfl:b=c:=by omega
     exact hs h2
   · rw[hne y hyx];exact h.nod y hy
 · by_cases hyx:y=x
   · subst hyx
     rw[hse,List.mem_append,h.mem y hy,List.mem_singleton];constructor
     · rintro(⟨c,h1,h2⟩|rfl)
       · exact⟨c,h1,(e y c).2 (.inl h2)⟩
       · exact⟨b,rfl,(e y b).2 (.inr ⟨rfl,rfl⟩)⟩
     · rintro⟨c,h1,h2⟩
       rcases(e y c).1 h2 with h3|⟨_,rfl⟩
       · exact .inl ⟨c,h1,h3⟩
       · exact .inr h1
   · rw[hne y hyx,h.mem y hy]
     constructor
     · rintro⟨c,h1,h2⟩;exact⟨c,h1,(e y c).2 (.inl h2)⟩
     · rintro⟨c,h1,h2⟩
       rcases(e y c).1 h2 with h3|⟨h3,_⟩
       · exact⟨c,h1,h3⟩
       · exact absurd h3 hyx
theorem YdD(hL0:L0=L.set 0 none):Anc (fnO L) y x↔y=x∨∃q,fnO L0 x=some q∧Anc (fnO L) y q:=by
 by_cases h0:x=0
 · subst h0
   have:∀q,fnO L0 0≠some q:=fun q h=>by
    rw[hL0]at h
    by_cases hl:0<L.length
    · simp[fnO,List.getD,hl]at h
    · simp[fnO,List.getD,hl]at h
   constructor
   · exact fun h=>.inl h.of0
   · rintro(rfl|⟨q,h1,_⟩)
     · exact .refl
     · exact absurd h1 (this q)
 · rw[hL0,Yaz h0]
   constructor
   · intro h
     rcases h.inv with e|⟨_,q,h1,h2⟩
     · exact .inl e
     · exact .inr ⟨q,h1,h2⟩
   · rintro(rfl|⟨q,h1,h2⟩)
     · exact .refl
     · exact .up h0 h1 h2
theorem YlG(t:NearOk n O P L)(hL0:L0=L.set 0 none)(h:fnO L0 x=some q):¬Anc (fnO L) x q:=by
 intro ha;have h0:x≠0:=fun e=>by
  subst e;rw[hL0]at h
  by_cases hl:0<L.length
  · simp[fnO,List.getD,hl]at h
  · simp[fnO,List.getD,hl]at h
 rw[hL0,Yaz h0]at h;have:=t.tok.le ha;have:=(t.tok.up h0 h).2.2.1;omega
def Climb(L0:List (Option Nat))(N:Nat→Option Nat)(b p:Nat):Option Nat→Prop
 |none=>fnO L0 b=none
 |some x=>Anc N x p∧∀q,fnO L0 b=some q→Anc N q x
theorem Climb.start(t:NearOk n O P L)(hL0:L0=L.set 0 none)(hb:b∈O)(hp:p∈P b)(hpO:p∈O):Climb L0 (fnO L) b p (some p):=by
 refine⟨.refl,fun q hq=>?_⟩;have h0:b≠0:=fun e=>by
  subst e;rw[hL0]at hq
  by_cases hl:0<L.length
  · simp[fnO,List.getD,hl]at hq
  · simp[fnO,List.getD,hl]at hq
 rw[hL0,Yaz h0]at hq;have hqb:Anc (fnO L) q b:=.up h0 hq .refl;have hne:q≠b:=fun e=>by have:=(t.tok.up h0 hq).2.2.1;rw[e]at this;omega
 refine(t.dom hpO).2 fun hA=>?_
 exact((t.dom hb).1 hqb) (.step hA hp fun e=>hne e.symm)
theorem Climb.step(hL0:L0=L.set 0 none)(h:Climb L0 (fnO L) b p (some x))(hne:fnO L0 b≠some x):Climb L0 (fnO L) b p (fnO L0 x):=by
 obtain⟨h1,h2⟩:=h;cases hx:fnO L0 x with
 |none=>
  cases hq:fnO L0 b with
  |none=>exact hq
  |some q=>
   rcases(YdD hL0).1 (h2 q hq)with e|⟨r,h3,_⟩
   · subst e;exact absurd hq hne
   · rw[hx]at h3;cases h3
 |some r=>
  refine⟨((YdD hL0).2 (.inr ⟨r,hx,.refl⟩)).trans h1,fun q hq=>?_⟩;rcases(YdD hL0).1 (h2 q hq)with e|⟨r',h3,h4⟩
  · subst e;exact absurd hq hne
  · rw[hx]at h3
    obtain rfl:=Option.some.inj h3;exact h4
theorem SC.step(t:NearOk n O P L)(hL0:L0=L.set 0 none)(hxp:Anc (fnO L) x p):SC O P L0 (fnO L) l b ps p (fnO L0 x) y c↔SC O P L0 (fnO L) l b ps p (some x) y c∨y=x∧c=b:=by
 have e:∀z,(∃x',some x=some x'∧Anc (fnO L) z x')↔Anc (fnO L) z x:=fun z=>⟨fun⟨x',h1,h2⟩=>by obtain rfl:=Option.some.inj h1;exact h2,fun h=>⟨x,rfl,h⟩⟩
 unfold SC;rw[e];constructor
 · rintro(h|⟨rfl,h1,h2⟩)
   · exact .inl (.inl h)
   · by_cases hy:y=x
     · exact .inr ⟨hy,rfl⟩
     · exact .inl (.inr ⟨rfl,h1,fun h3=>by
        rcases(YdD hL0).1 h3 with e|h4
        · exact hy e
        · exact h2 h4⟩)
 · rintro((h|⟨rfl,h1,h2⟩)|⟨rfl,rfl⟩)
   · exact .inl h
   · exact .inr ⟨rfl,h1,fun h3=>h2 ((YdD hL0).2 (.inr h3))⟩
   · exact .inr ⟨rfl,hxp,fun⟨q,h3,h4⟩=>YlG t hL0 h3 h4⟩
theorem SC.start:SC O P L0 N l b ps p (some p) y c↔SP O P L0 N l b ps y c:=by
 unfold SC;constructor
 · rintro(h|⟨_,h1,h2⟩)
   · exact h
   · exact absurd ⟨p,rfl,h1⟩ h2
 · exact .inl
theorem SC.stop(hp:p∈O):SC O P L0 N l b ps p (fnO L0 b) y c↔SP O P L0 N l b (ps++[p]) y c:=by
 unfold SC SP;constructor
 · rintro((h|⟨h,q,h1,h2⟩)|⟨h,h1,h2⟩)
   · exact .inl h
   · exact .inr ⟨h,q,by simp[h1],h2⟩
   · exact .inr ⟨h,p,ZS,hp,h1,h2⟩
 · rintro(h|⟨h,q,h1,h2,h3,h4⟩)
   · exact .inl (.inl h)
   · rcases List.mem_append.1 h1 with h1|h1
     · exact .inl (.inr ⟨h,q,h1,h2,h3,h4⟩)
     · simp at h1;subst h1;exact .inr ⟨h,h3,h4⟩
theorem SP.out(hp:p∉O):SP O P L0 N l b (ps++[p]) y c↔SP O P L0 N l b ps y c:=by
 unfold SP;constructor
 · rintro(h|⟨h,q,h1,h2⟩)
   · exact .inl h
   · rcases List.mem_append.1 h1 with h1|h1
     · exact .inr ⟨h,q,h1,h2⟩
     · simp at h1;subst h1;exact absurd h2.1 hp
 · rintro(h|⟨h,q,h1,h2⟩)
   · exact .inl h
   · exact .inr ⟨h,q,by simp[h1],h2⟩
theorem SP.start:SP O P L0 N l b [] y c↔SF O P L0 N l y c:=by simp[SP]
theorem SP.stop:SP O P L0 N l b (P b) y c↔SF O P L0 N (l++[b]) y c:=by
 unfold SP SF;constructor
 · rintro(⟨h1,h2⟩|⟨rfl,h⟩)
   · exact⟨by simp[h1],h2⟩
   · exact⟨ZS,h⟩
 · rintro⟨h1,h2⟩
   rcases List.mem_append.1 h1 with h1|h1
   · exact .inl ⟨h1,h2⟩
   · simp at h1;subst h1;exact .inr ⟨rfl,h2⟩
open Classical in
noncomputable def YbE (n:Nat) (S:Nat→Nat→Prop) (x:Nat):List Nat:=(List.range n).filter fun b=>decide (S x b)
theorem FrI.sorted(h:FrI n S X)(hx:x<n)(hS:∀b,S x b→b<n):(X.getD x []).mergeSort (fun a b=>decide (a≤b))=Yf (YbE n S x):=by
 have hp:=List.mergeSort_perm (X.getD x []) (fun a b=>decide (a≤b));have hs:=List.pairwise_mergeSort (le:=fun(a b:Int)=>decide (a≤b)) (fun a b c h1 h2=>by simp at *;omega) (fun a b=>ZX) (X.getD x []);have hr:(Yf (YbE n S x)).Pairwise (fun a b=>decide (a≤b)=true):=by
  unfold Yf YbE;rw[List.pairwise_map];refine(List.Pairwise.filter _ List.pairwise_lt_range).imp fun h=>?_
  simp;omega
 have hn2:(Yf (YbE n S x)).Nodup:=by
  unfold Yf YbE List.Nodup;rw[List.pairwise_map];refine(List.Pairwise.filter _ List.pairwise_lt_range).imp fun h=>?_
  intro e;simp at e;omega
 refine List.Perm.eq_of_pairwise (fun a b _ _ h1 h2=>by simp at h1 h2;omega) hs hr (hp.trans ((List.perm_ext_iff_of_nodup (h.nod x hx) hn2).2 fun z=>?_));rw[h.mem x hx];unfold Yf YbE;rw[List.mem_map];constructor
 · rintro⟨b,h1,h2⟩
   exact⟨b,by simp[h2,hS b h2],by rw[h1];rfl⟩
 · rintro⟨b,h1,h2⟩
   simp at h1;exact⟨b,h2.symm,h1.2⟩
theorem FrI.row_le(h:FrI n S X)(hx:x<n)(hS:∀b,S x b→b<n):(X.getD x []).length≤n:=by
 have h1:=congrArg List.length (h.sorted hx hS);rw[List.length_mergeSort]at h1;rw[h1];unfold Yf YbE;rw[List.length_map];exact Nat.le_trans (List.length_filter_le _ _) ZS
end
end Go.Proofs.YtjlclkcmfokobaaGreatDoor
