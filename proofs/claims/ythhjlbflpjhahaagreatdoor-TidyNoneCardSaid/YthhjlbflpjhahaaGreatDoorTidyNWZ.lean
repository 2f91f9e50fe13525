/- The walk of the law TidyNone: it returns true, whatever the program. -/
import Derived.Test.YthhjlbflpjhahaaGreatDoorTdZZ
import Derived.Test.YthhjlbflpjhahaaGreatDoorTdIZ
import Derived.Test.YthhjlbflpjhahaaGreatDoorTidyYZ
import Derived.Test.YthhjlbflpjhahaaGreatDoorLawJZ
import Derived.Test.YthhjlbflpjhahaaGreatDoorSLwZ
import Derived.Test.YthhjlbflpjhahaaGreatDoorSameZ
namespace Go.Proofs.YthhjlbflpjhahaaGreatDoor
open Go.RowKit
set_option maxRecDepth 100000
section
variable {F G H:PFunc}
theorem none_facts(hf:fewB F=true)(hT:typedP F=true)(hJ:joinedB F=true)(h:IsT (prF F) G):(typedP G=true∧joinedB G=true∧fewB G=true)∧(∀a b,fol G a b=false)∧(singleB F=true→singleB G=true)∧∀H,IsT (prF G) H→H=G:=by
 obtain⟨hPT,hPJ⟩:=joined_pr hT hJ;have hPA:=pr_all hT hPT;obtain⟨h1,h2⟩:=straight_none hPT hPJ hPA h;refine⟨⟨h1.t,h1.j,straight_few hPT hPJ hPA (pr_few hT hf) h⟩,h2,fun hs=>?_,fun H hH=>?_⟩
 · unfold singleB at hs⊢
   simp only[Bool.and_eq_true]at hs ⊢;obtain⟨⟨⟨-,g2⟩,g3⟩,g4⟩:=hs;have hA:∀k,k<F.blocks.length→k∈postO F:=fun k hk=>by
    have:=List.all_eq_true.1 g2 k (List.mem_range.2 hk);rw[decide_eq_true_eq]at this;exact List.mem_reverse.1 this
   rw[pr_self hT hJ hA]at h;obtain⟨h5,-⟩:=straight_behind hT hJ hA g3 (fun i hi=>List.all_eq_true.1 g4 i (List.mem_range.2 hi)) h;refine⟨⟨⟨h1.j,?_⟩,h5.o⟩,?_⟩
   · unfold thereB
     rw[List.all_eq_true];intro k hk;rw[decide_eq_true_eq];exact List.mem_reverse.2 (h1.a k (List.mem_range.1 hk))
   · rw[List.all_eq_true]
     intro k hk;exact h5.b k (List.mem_range.1 hk)
 · rw[pr_self h1.t h1.j h1.a]at hH
   exact IsT.uniq (typed_rk h1.t h1.a) (typed_rg h1.t) hH (tidy_self (typed_rg h1.t) h2)
end
set_option maxHeartbeats 8000000 in
theorem tidyNone_law{W:World}{fv:Value}{F:PFunc}(hU:Uni W)(hF:FnV W W.heap.size fv F) :
 Calls Tryz.prog 4 #[fv] W fun e w'=>e=.returned (.bool true)∧Below W.heap.size W w':=by
 have hlv:=fun(w:World) (h:Below W.heap.size W w)=>livesT_calls hU h
 have hlj:=fun(w:World) (h:Below W.heap.size W w)=>lawJ_val hU hF h
 obtain⟨w,rfl⟩:∃w:World,w=W:=⟨_,rfl⟩;obtain⟨A0,c0,A1,c1,A2,c2,rfl,l0,l1,l2,-,-,-,r0,r1,r2⟩:=id hF.open_;unfold Len at *;clear r0 r1 r2;have hb0:=(Br w.heap.size w).alloc (Nr _) (.cells #[.slice A0 F.vars.length c0,.slice A1 F.params.length c1,.slice A2 F.blocks.length c2] 26);have HX0:=Lh (BoxAt.new w #[.slice A0 F.vars.length c0,.slice A1 F.params.length c1,.slice A2 F.blocks.length c2] 26);cases hx:(lawT F&&joinedB F)
 · as_aux_lemma=>
   rw[hx]at hlj;clear hx hF;go_enter Tryz.func4,Tryz.ntmps4;go_wp2_with fail;refine(hlv _ hb0).mono ?_;rintro e w1 ⟨rfl,hb1⟩;have hx1:=HX0.out.below hb1 HX0.out.lt;have hB1:=hb0.trans (hb1.mono hb0.size);have q0:=hx1.cell 0;have q1:=hx1.cell 1;have q2:=hx1.cell 2;have ql:=hx1.lt;simp at q0 q1 q2;go_wp2_with fail;refine(hlj _ hB1).mono ?_;rintro e w2 ⟨rfl,hb2⟩;have hB2:=hB1.trans (hb2.mono hB1.size);clear q0 q1 q2 ql;go_wp2_with fail;refine(hlv _ hB2).mono ?_;rintro e w3 ⟨rfl,hb3⟩;have hB3:=hB2.trans (hb3.mono hB2.size);go_wp2;go_ret;exact⟨rfl,hB3⟩
 as_aux_lemma=>
 have hx2:lawT F=true∧joinedB F=true:=by simpa using hx
 have hx3:fewB F=true∧typedP F=true:=by have:=hx2.1;unfold lawT at this;simpa using this
 have hS:=few_small hx3.1;have hBn:=few_bnd hx3.1;have hst:=fun(w':World) (h:Below w.heap.size w w')=>straight_calls hU hF h hS hBn hx3.2 hx2.2
 have hsg:=fun(w':World) (h:Below w.heap.size w w')=>lawSingle_calls hU hF h
 rw[hx2.1,Bool.true_and]at hsg;rw[hx]at hlj;have HNF:=Lh (fun(G:PFunc) (h:IsT (prF F) G)=>none_facts hx3.1 hx3.2 hx2.2 h);have HU:=Lh hU;clear hx hF hS hBn hx2 hx3 hU;go_enter Tryz.func4,Tryz.ntmps4;go_wp2_with fail;refine(hlv _ hb0).mono ?_;rintro e w1 ⟨rfl,hb1⟩;have hx1:=HX0.out.below hb1 HX0.out.lt;have hB1:=hb0.trans (hb1.mono hb0.size);have q0:=hx1.cell 0;have q1:=hx1.cell 1;have q2:=hx1.cell 2;have ql:=hx1.lt;simp at q0 q1 q2;go_wp2_with fail;refine(hlj _ hB1).mono ?_;rintro e w2 ⟨rfl,hb2⟩;have hx2:=hx1.below hb2 hx1.lt;have hB2:=hB1.trans (hb2.mono hB1.size);clear q0 q1 q2 ql;have q0:=hx2.cell 0;have q1:=hx2.cell 1;have q2:=hx2.cell 2;have ql:=hx2.lt;simp at q0 q1 q2;clear hb1 hb2 hx1 hB1 hlv hlj;go_wp2_with fail;refine(hst _ hB2).mono ?_;rintro e w5 ⟨⟨gv,G,rfl,hG,hGT⟩,hb5⟩;obtain⟨⟨hTG,hJG,hfG⟩,hno,hsi,hun⟩:=HNF.out G hGT;obtain⟨B0,d0,B1,d1,B2,d2,rfl,m0,m1,m2,-,-,-,-,-,-⟩:=id hG.open_;unfold Len at m2;have hUG:=(HU.out.below hB2).below hb5;have hSG:=few_small hfG;have hBG:=few_bnd hfG;have hLG:lawT G=true:=by rw[lawT,hfG,hTG];rfl
 have hty:=fun(w':World) (h:Below w5.heap.size w5 w')=>law8Typed_calls hUG hG h hSG
 rw[hTG]at hty;have hjn:=fun(w':World) (h:Below w5.heap.size w5 w')=>refJoined_calls hG h hTG
 rw[← join_eq hTG,hJG]at hjn;have hsG:=fun(w':World) (h:Below w5.heap.size w5 w')=>lawSingle_calls hUG hG h
 rw[hLG,Bool.true_and]at hsG;have HFO:=Lh (fun(w':World) (h:Below w5.heap.size w5 w') (a b:Int)=>tidyFollowsYes_calls hUG hG h hSG hTG a b);have HST:=Lh (fun(w':World) (h:Below w5.heap.size w5 w')=>straight_calls hUG hG h hSG hBG hTG hJG);have HSM:=Lh (fun(W':World) (hW':Below w5.heap.size w5 W') (hv:Value) (hH:FnV W' W'.heap.size hv G) (w':World) (h:Below W'.heap.size W' w')=>same_calls (hG.keep (Kept.of_below hW') hW'.size) hH h);have HNO:=Lh hno;have HUN:=Lh hun;have hx5:=hx2.below hb5 hx2.lt;have hB5:=hB2.trans (hb5.mono hB2.size);have HB5:=Lh hB5;have hB6:=(Br w5.heap.size w5).alloc (Nr _) (.cells #[.slice B0 G.vars.length d0,.slice B1 G.params.length d1,.slice B2 G.blocks.length d2] 26);have hA6:=HB5.out.trans (hB6.mono HB5.out.size);have hx6:=hx5.below hB6 hx5.lt;have hg6:=BoxAt.new w5 #[.slice B0 G.vars.length d0,.slice B1 G.params.length d1,.slice B2 G.blocks.length d2] 26;clear q0 q1 q2 ql hx2 hb5 hGT hG hTG hJG hfG hno hun hLG hSG hBG hUG hst;have q0:=hx5.cell 0;have q1:=hx5.cell 1;have q2:=hx5.cell 2;have ql:=hx5.lt;simp at q0 q1 q2;clear hx5 hB5
 go_upto_region 4 with fail
 clear q0 q1 q2 ql;have q0:=hx6.cell 0;have q1:=hx6.cell 1;have q2:=hx6.cell 2;have ql:=hx6.lt;simp at q0 q1 q2;have g0:=hg6.cell 0;have g1:=hg6.cell 1;have g2:=hg6.cell 2;have gl:=hg6.lt;simp at g0 g1 g2
 go_cut[42] (fun s wx=>s=.bool false∧BoxAt wx w.heap.size #[.slice A0 F.vars.length c0,.slice A1 F.params.length c1,.slice A2 F.blocks.length c2] 26∧BoxAt wx w5.heap.size #[.slice B0 G.vars.length d0,.slice B1 G.params.length d1,.slice B2 G.blocks.length d2] 26∧Below w5.heap.size w5 wx)
 case first=>
  clear HFO HST HSM HNO HUN;generalize singleB F=b at *;cases b
  · as_aux_lemma=>
    clear hsi hsG;go_wp2_with fail;refine(hty _ hB6).mono ?_;rintro e w7 ⟨rfl,hb7⟩;have hB7:=hB6.trans (hb7.mono hB6.size);have hA7:=HB5.out.trans (hB7.mono HB5.out.size);have hx7:=hx6.below hb7 hx6.lt;have hg7:=hg6.below hb7 hg6.lt;clear q0 q1 q2 ql g0 g1 g2 gl hb7 hx6 hg6 hB6 hA6;have q0:=hx7.cell 0;have q1:=hx7.cell 1;have q2:=hx7.cell 2;have ql:=hx7.lt;simp at q0 q1 q2;have g0:=hg7.cell 0;have g1:=hg7.cell 1;have g2:=hg7.cell 2;have gl:=hg7.lt;simp at g0 g1 g2;go_wp2_with fail;refine(hjn _ hB7).mono ?_;rintro e w8 ⟨rfl,hb8⟩;have hB8:=hB7.trans (hb8.mono hB7.size);have hA8:=HB5.out.trans (hB8.mono HB5.out.size);have hx8:=hx7.below hb8 hx7.lt;have hg8:=hg7.below hb8 hg7.lt;clear q0 q1 q2 ql g0 g1 g2 gl hb8 hx7 hg7 hB7 hA7;have q0:=hx8.cell 0;have q1:=hx8.cell 1;have q2:=hx8.cell 2;have ql:=hx8.lt;simp at q0 q1 q2;have g0:=hg8.cell 0;have g1:=hg8.cell 1;have g2:=hg8.cell 2;have gl:=hg8.lt;simp at g0 g1 g2;go_wp2_with fail;refine(hsg _ hA8).mono ?_;rintro e w9 ⟨rfl,hb9⟩;have hB9:=hB8.trans (hb9.mono hB8.size);have hA9:=HB5.out.trans (hB9.mono HB5.out.size);have hx9:=hx8.below hb9 hx8.lt;have hg9:=hg8.below hb9 hg8.lt;clear q0 q1 q2 ql g0 g1 g2 gl hb9 hx8 hg8 hB8 hA8;have q0:=hx9.cell 0;have q1:=hx9.cell 1;have q2:=hx9.cell 2;have ql:=hx9.lt;simp at q0 q1 q2;have g0:=hg9.cell 0;have g1:=hg9.cell 1;have g2:=hg9.cell 2;have gl:=hg9.lt;simp at g0 g1 g2;go_wp2
    go_meet
    exact⟨rfl,hx9,hg9,hB9⟩
  · as_aux_lemma=>
    rw[hsi rfl]at hsG;clear hsi;go_wp2_with fail;refine(hty _ hB6).mono ?_;rintro e w7 ⟨rfl,hb7⟩;have hB7:=hB6.trans (hb7.mono hB6.size);have hA7:=HB5.out.trans (hB7.mono HB5.out.size);have hx7:=hx6.below hb7 hx6.lt;have hg7:=hg6.below hb7 hg6.lt;clear q0 q1 q2 ql g0 g1 g2 gl hb7 hx6 hg6 hB6 hA6;have q0:=hx7.cell 0;have q1:=hx7.cell 1;have q2:=hx7.cell 2;have ql:=hx7.lt;simp at q0 q1 q2;have g0:=hg7.cell 0;have g1:=hg7.cell 1;have g2:=hg7.cell 2;have gl:=hg7.lt;simp at g0 g1 g2;go_wp2_with fail;refine(hjn _ hB7).mono ?_;rintro e w8 ⟨rfl,hb8⟩;have hB8:=hB7.trans (hb8.mono hB7.size);have hA8:=HB5.out.trans (hB8.mono HB5.out.size);have hx8:=hx7.below hb8 hx7.lt;have hg8:=hg7.below hb8 hg7.lt;clear q0 q1 q2 ql g0 g1 g2 gl hb8 hx7 hg7 hB7 hA7;have q0:=hx8.cell 0;have q1:=hx8.cell 1;have q2:=hx8.cell 2;have ql:=hx8.lt;simp at q0 q1 q2;have g0:=hg8.cell 0;have g1:=hg8.cell 1;have g2:=hg8.cell 2;have gl:=hg8.lt;simp at g0 g1 g2;go_wp2_with fail;refine(hsg _ hA8).mono ?_;rintro e w9 ⟨rfl,hb9⟩;have hB9:=hB8.trans (hb9.mono hB8.size);have hA9:=HB5.out.trans (hB9.mono HB5.out.size);have hx9:=hx8.below hb9 hx8.lt;have hg9:=hg8.below hb9 hg8.lt;clear q0 q1 q2 ql g0 g1 g2 gl hb9 hx8 hg8 hB8 hA8;have q0:=hx9.cell 0;have q1:=hx9.cell 1;have q2:=hx9.cell 2;have ql:=hx9.lt;simp at q0 q1 q2;have g0:=hg9.cell 0;have g1:=hg9.cell 1;have g2:=hg9.cell 2;have gl:=hg9.lt;simp at g0 g1 g2;go_wp2_with fail;refine(hsG _ hB9).mono ?_;rintro e w10 ⟨rfl,hb10⟩;have hB10:=hB9.trans (hb10.mono hB9.size);have hA10:=HB5.out.trans (hB10.mono HB5.out.size);have hx10:=hx9.below hb10 hx9.lt;have hg10:=hg9.below hb10 hg9.lt;clear q0 q1 q2 ql g0 g1 g2 gl hb10 hx9 hg9 hB9 hA9;have q0:=hx10.cell 0;have q1:=hx10.cell 1;have q2:=hx10.cell 2;have ql:=hx10.lt;simp at q0 q1 q2;have g0:=hg10.cell 0;have g1:=hg10.cell 1;have g2:=hg10.cell 2;have gl:=hg10.lt;simp at g0 g1 g2;go_wp2
    go_meet
    exact⟨rfl,hx10,hg10,hB10⟩
 case rest=>
 clear q0 q1 q2 ql g0 g1 g2 gl hx6 hg6 hA6 hB6 hty hjn hsg hsG hsi;obtain⟨rfl,hxk,hgk,hBk⟩:=hcut;have g0:=hgk.cell 0;have g1:=hgk.cell 1;have g2:=hgk.cell 2;have gl:=hgk.lt;simp at g0 g1 g2;have HGK:=Lh hgk;have HBK:=Lh hBk;clear hxk hgk;go_wp2_with fail;clear g0 g1 g2 gl hBk
 go_loopw[46] (fun x wr=>∃n:Nat,x=.int .i64 n∧n≤G.blocks.length∧BoxAt wr w5.heap.size #[.slice B0 G.vars.length d0,.slice B1 G.params.length d1,.slice B2 G.blocks.length d2] 26∧Below w5.heap.size w5 wr) (fun x _=>G.blocks.length-(intOf x).toNat)
 case atStart=>exact⟨0,rfl,Nz _,HGK.out,HBK.out⟩
 case round=>as_aux_lemma=>
  obtain⟨n,rfl,hn,hgr,hBr⟩:=hrel
  by_cases hlt:n<G.blocks.length
  · as_aux_lemma=>
    have g0:=hgr.cell 0;have g1:=hgr.cell 1;have g2:=hgr.cell 2;have gl:=hgr.lt;simp at g0 g1 g2;have HGR:=Lh hgr;have HBR:=Lh hBr;clear hgr hBr HST HSM HUN HGK HBK;go_wp2_with fail;clear g0 g1 g2 gl
    go_loopw[52] (fun x wr=>∃m:Nat,x=.int .i64 m∧m≤G.blocks.length∧BoxAt wr w5.heap.size #[.slice B0 G.vars.length d0,.slice B1 G.params.length d1,.slice B2 G.blocks.length d2] 26∧Below w5.heap.size w5 wr) (fun x _=>G.blocks.length-(intOf x).toNat)
    case atStart=>exact⟨0,rfl,Nz _,HGR.out,HBR.out⟩
    case round=>as_aux_lemma=>
     obtain⟨m,rfl,hm,hgi,hBi⟩:=hrel
     by_cases hml:m<G.blocks.length
     · as_aux_lemma=>
       have hfo:=HFO.out _ hBi (n:Int) (m:Int);rw[HNO.out,Bool.and_false]at hfo;have g0:=hgi.cell 0;have g1:=hgi.cell 1;have g2:=hgi.cell 2;have gl:=hgi.lt;simp at g0 g1 g2;have HGI:=Lh hgi;have HBI:=Lh hBi;clear hgi hBi;go_wp2_with fail;refine hfo.mono ?_;rintro e wv ⟨rfl,hbv⟩;have HGV:=Lh (HGI.out.below hbv HGI.out.lt);have HBV:=Lh (HBI.out.trans (hbv.mono HBI.out.size));clear hbv g0 g1 g2 gl;go_wp2;go_roundw
       case rel=>exact⟨m+1,ZN,ZO,HGV.out,HBV.out⟩
       case measure=>simp[intOf];omega
     · as_aux_lemma=>
       obtain rfl:m=G.blocks.length:=by omega
       go_wp2;go_roundw
       case rel=>exact⟨n+1,ZN,ZO,hgi,hBi⟩
       case measure=>simp[intOf];omega
  · as_aux_lemma=>
    obtain rfl:n=G.blocks.length:=by omega
    have g0:=hgr.cell 0;have g1:=hgr.cell 1;have g2:=hgr.cell 2;have gl:=hgr.lt;simp at g0 g1 g2;go_wp2_with fail;refine(HST.out _ hBr).mono ?_;rintro e wa ⟨⟨hv,H,rfl,hH,hHT⟩,hba⟩;have hE:=HUN.out H hHT;rw[hE]at hH;clear hE hHT;have hBa:=hBr.trans (hba.mono hBr.size);have hga:=hgr.below hba hgr.lt;have hsm:=HSM.out wa hBa hv hH;obtain⟨C0,k3,C1,k4,C2,k5,rfl,-⟩:=id hH.open_;clear g0 g1 g2 gl hba hgr hH;have g0:=hga.cell 0;have g1:=hga.cell 1;have g2:=hga.cell 2;have gl:=hga.lt;simp at g0 g1 g2;have HBLA:=Lh ((Br wa.heap.size wa).alloc (Nr _) (.cells #[.slice C0 G.vars.length k3,.slice C1 G.params.length k4,.slice C2 G.blocks.length k5] 26));have HBA:=Lh (HB5.out.trans (hBa.mono HB5.out.size));clear hga hBa hBr;go_wp2_with fail;refine(hsm _ HBLA.out).mono ?_;rintro e wc ⟨rfl,hbc⟩;have HF:=Lh (HBA.out.trans ((HBLA.out.trans (hbc.mono HBLA.out.size)).mono HBA.out.size));clear hbc;go_wp2;go_ret;exact⟨rfl,HF.out⟩
end Go.Proofs.YthhjlbflpjhahaaGreatDoor
