/- The walk of tidy.Straight: of a joined program the straight one. -/
import Derived.Test.YthhjlbflpjhahaaGreatDoorTdMZ
import Derived.Test.YthhjlbflpjhahaaGreatDoorTdAZ
import Derived.Test.YthhjlbflpjhahaaGreatDoorTdIZ
import Derived.Test.YthhjlbflpjhahaaGreatDoorPruneZ
import Derived.Test.YthhjlbflpjhahaaGreatDoorMonLZ
namespace Go.Proofs.YthhjlbflpjhahaaGreatDoor
open Go.RowKit
set_option maxRecDepth 100000
theorem Pth.len{F:PFunc}{r:Nat→Nat}(hr:RkP F r){M:Nat}(hM:∀i,(F.blk i).insts.length≤M){i j:Nat}{L:List PInst}(h:Pth F i L j):L.length≤(r j+1)*M:=by
 induction h with
 |one=>
  have h1:=hM i;have h2:=Nat.mul_le_mul_right M (show 1≤r i+1 from ZO);omega
 |more h h2 ih=>
  rename_i j b L;have h1:=hM b;have h3:=hr _ _ h2;have h4:=Nat.mul_le_mul_right M (show r j+1+1≤r b+1 from ZO);rw[List.length_append];rw[Nat.add_mul (r j+1) 1 M]at h4;omega
structure TdR (H:PFunc) (L:List Int) (w1 wr:World) (bf gr gn gh gm:Nat) (N:List Int) (f0 f1 f2:Value):Prop where
 bx:BoxAt wr bf #[f0,f1,f2] 26
 br:BoxAt wr gr #[.slice (some ⟨gn,0,none⟩) H.blocks.length H.blocks.length,.slice (some ⟨gh,0,none⟩) H.blocks.length H.blocks.length] 85
 bn:BoxAt wr gn ((nxL H H.blocks.length).map (Value.int .i64)).toArray 3
 bh:BoxAt wr gh (L.map (Value.int .i64)).toArray 3
 bm:BoxAt wr gm (N.map (Value.int .i64)).toArray 3
 hb:Below w1.heap.size w1 wr
theorem TdR.below{H:PFunc}{L:List Int}{w1 wr w':World}{bf gr gn gh gm:Nat}{N:List Int}{f0 f1 f2:Value}(h:TdR H L w1 wr bf gr gn gh gm N f0 f1 f2)(hb:Below wr.heap.size wr w'):TdR H L w1 w' bf gr gn gh gm N f0 f1 f2:=
 ⟨h.bx.below hb h.bx.lt,h.br.below hb h.br.lt,h.bn.below hb h.bn.lt,h.bh.below hb h.bh.lt,h.bm.below hb h.bm.lt,h.hb.trans (hb.mono h.hb.size)⟩
theorem TdR.set{H:PFunc}{L:List Int}{w1 wr:World}{bf gr gn gh gm:Nat}{N:List Int}{f0 f1 f2:Value}(h:TdR H L w1 wr bf gr gn gh gm N f0 f1 f2)(hm:w1.heap.size≤gm)(d:gm≠bf∧gm≠gr∧gm≠gn∧gm≠gh)(j:Nat)(v:Int):TdR H L w1 (wr.setCell ⟨gm,j,none⟩ (.int .i64 v)) bf gr gn gh gm (N.set j v) f0 f1 f2:=
 ⟨h.bx.other d.1 _,h.br.other d.2.1 _,h.bn.other d.2.2.1 _,h.bh.other d.2.2.2 _,h.bm.row j v,h.hb.setCell hm _⟩
def Copied(H:PFunc)(wq wx:World)(gO B2:Nat)(v0 v1 v2 vall:Value)(ps:List XBlk):Prop:=wq.heap.size≤gO∧wq.heap.size≤B2∧BoxAt wx gO #[v0,v1,v2] 26∧RRow wx wq.heap.size 78 2 CVar v0 H.vars∧wx.ownsRow wq.heap.size 3 1 v1 H.params.length (H.params.map (Value.int .i64))∧(∀b,v1.ownBlock=some b→b<B2)∧ps.map XBlk.b=H.blocks∧RRow wx B2 62 7 (CBS wx B2) vall ps∧ps.Pairwise BeforeX∧Below wq.heap.size wq wx
theorem Copied.of{H:PFunc}{wq wA wB wE:World}{gO B1 B2:Nat}{v0 v1 v2 vall:Value}{ps:List XBlk}(hV:RRow wA B1 78 2 CVar v0 H.vars)(hI:wA.ownsRow B1 3 1 v1 H.params.length (H.params.map (Value.int .i64)))(hAB:Below wA.heap.size wA wB)(h12:wA.heap.size≤B2)(hR:RRow wB B2 62 7 (CBS wB B2) vall ps)
 (hps:ps.map XBlk.b=H.blocks) (hpw:ps.Pairwise BeforeX) (hK:KT [3,64,67,62,78] wB wE) (box:BoxAt wE gO #[v0,v1,v2] 26) (h1:wq.heap.size≤B1) (h2:wq.heap.size≤gO) (hA:wq.heap.size≤wA.heap.size) (hb:Below wq.heap.size wq wE):Copied H wq wE gO B2 v0 v1 v2 vall ps:=
 ⟨h2,Nat.le_trans hA h12,box,((hV.move hAB fun _ _ h=>h).kt hK ZS fun _ _ h=>h).rebase h1,own_rebase (own_kt (own_below hI hAB) hK ZS) h1,fun b hb=>Nt (own_lt hI hb).2 h12,hps,hR.kt hK ZS fun _ _ h=>h.kt hK ZS ZS ZS,hpw,hb⟩
set_option maxHeartbeats 16000000 in
theorem straight_calls{W w:World}{fv:Value}{F:PFunc}(hU:Uni W)(hF:FnV W W.heap.size fv F)(hW:Below W.heap.size W w)(hS:Small F)(hN:Bnd F)(hT:typedP F=true)(hJ:joinedB F=true) :
 Calls Tryz.prog 15 #[fv] w fun e w'=>(∃gv G,e=.returned (.tuple #[gv,.int .i64 0])∧FnV w' w'.heap.size gv G∧IsT (prF F) G)∧Below w.heap.size w w':=by
 have hWs:=hW.size;have hjn:=fun(w':World) (h:Below W.heap.size W w')=>graphJoined_calls hU hF h hS hN
 rw[show joinB F=true by rw[joinB,hT,hJ];rfl,show errOf true=0 from rfl]at hjn;have hpr:=fun(w':World) (h:Below W.heap.size W w')=>pruneF_calls hU hF h hS hN hT
 obtain⟨hPT,hPJ⟩:=joined_pr hT hJ;rw[show joinB (prF F)=true by rw[joinB,hPT,hPJ];rfl]at hpr;have hBP:=bnd_pr hN;have hrk:=typed_rk hPT (pr_all hT hPT);have HU:=Lh hU;obtain⟨A0,c0,A1,c1,A2,c2,rfl,l0,l1,l2,-,-,-,-,-,-⟩:=id hF.open_;unfold Len at *;generalize prF F=H at hpr hPT hPJ hBP hrk ⊢;obtain⟨n1,n2⟩:=shaped_count (typed_shaped hPT);have HPT:=Lh hPT;have HBP:=Lh hBP;have HRK:=Lh hrk;have HSM:=Lh hBP.small;clear hU hF hS hN hT hJ hPT hPJ hBP hrk;obtain⟨w3,hw3⟩:∃w3:World,w3=(w.alloc (.cells #[.slice A0 F.vars.length c0,.slice A1 F.params.length c1,.slice A2 F.blocks.length c2] 26)).alloc (.cells #[.slice none 0 0,.slice none 0 0,.slice none 0 0] 26):=⟨_,rfl⟩;have hb3:Below w.heap.size w w3:=by rw[hw3];exact BL
 have hs3:w3.heap.size=w.heap.size+2:=by rw[hw3];simp
 have x0:BoxAt w3 w.heap.size #[.slice A0 F.vars.length c0,.slice A1 F.params.length c1,.slice A2 F.blocks.length c2] 26:=by rw[hw3];exact(BoxAt.new _ _ _).alloc _
 have x1:BoxAt w3 (w.heap.size+1) #[.slice none 0 0,.slice none 0 0,.slice none 0 0] 26:=by
  rw[hw3];have:=BoxAt.new (w.alloc (.cells #[.slice A0 F.vars.length c0,.slice A1 F.params.length c1,.slice A2 F.blocks.length c2] 26)) #[.slice none 0 0,.slice none 0 0,.slice none 0 0] 26;simpa using this
 have hW3:=hW.trans (hb3.mono hWs);obtain⟨ib,hib,hz0,hz1,hz2⟩:=info_parts Tryz.info3;go_enter Tryz.func15,Tryz.ntmps15
 go_upto_region 4 with(go_at_call 39;rw[← hw3];refine(hjn _ hW3).mono ?_;rintro e w4 ⟨rfl,hb4⟩)
 have y0:=x0.below hb4 x0.lt;have y1:=x1.below hb4 x1.lt;have q0:=y0.cell 0;have q1:=y0.cell 1;have q2:=y0.cell 2;have ql:=y0.lt;have hW4:=hW3.trans (hb4.mono hW3.size);have hB4:=hb3.trans (hb4.mono hb3.size);simp at q0 q1 q2;clear hw3 hjn x0 x1 hb4 hb3 hW3
 go_upto_region 5 with(go_at_call 40;refine(hpr _ hW4).mono ?_;rintro e w5 ⟨hb5,h5⟩;obtain⟨gv,B5,rfl,hG⟩:∃gv B5,e=.returned (.tuple #[gv,.int .i64 0])∧FnF w5 B5 gv H:=(by rcases h5 with⟨-,h⟩|⟨h,-⟩;exact h;cases h);clear h5;obtain⟨vv,vp,vb,ps5,rfl,hv1,hv2,hv3,hv4⟩:=id hG;obtain⟨A5,c5,rfl⟩:=hv1.form;obtain⟨A6,c6,rfl⟩:=own_form hv2;obtain⟨A7,c7,hvb⟩:=hv3.form;rw[show ps5.length=H.blocks.length by rw[← hv4,List.length_map]]at hvb;subst hvb;clear hv1 hv2 hv3 hv4;have u0:=y0.below hb5 y0.lt;have v0:=u0.cell 0;have v1:=u0.cell 1;have v2:=u0.cell 2;have w0:=u0.frozen 0;have w1:=u0.frozen 1;have w2:=u0.frozen 2;have vl:=u0.lt;simp at v0 v1 v2)
 obtain⟨w6,hw6⟩:∃w6:World,w6=((w5.setCell ⟨w.heap.size,0,none⟩ (.slice A5 H.vars.length c5)).setCell ⟨w.heap.size,1,none⟩ (.slice A6 H.params.length c6)).setCell ⟨w.heap.size,2,none⟩ (.slice A7 H.blocks.length c7):=⟨_,rfl⟩
 go_loud (rw[← hw6])
 have hK6:KT [3,64,67,62,78] w5 w6:=by rw[hw6];exact((KT.refl.setCell u0 ZS _).setCell (u0.set 0 _) ZS _).setCell ((u0.set 0 _).set 1 _) ZS _
 have hG6:=hG.kt hK6;have hF6:=hG6.fn HBP.out;have hB6:Below w.heap.size w w6:=by rw[hw6];exact(((hB4.trans (hb5.mono hB4.size)).setCell (p:=⟨w.heap.size,0,none⟩) (Nr _) _).setCell (p:=⟨w.heap.size,1,none⟩) (Nr _) _).setCell (p:=⟨w.heap.size,2,none⟩) (Nr _) _
 have u6:BoxAt w6 w.heap.size #[.slice A5 H.vars.length c5,.slice A6 H.params.length c6,.slice A7 H.blocks.length c7] 26:=by rw[hw6];exact u0.set3
 have t6:BoxAt w6 (w.heap.size+1) #[.slice none 0 0,.slice none 0 0,.slice none 0 0] 26:=by
  rw[hw6];exact(((y1.below hb5 y1.lt).other (p:=⟨w.heap.size,0,none⟩) ZS _).other (p:=⟨w.heap.size,1,none⟩) ZS _).other (p:=⟨w.heap.size,2,none⟩) ZS _
 have hU6:Uni w6:=(HU.out.below hW).below hB6;have hch:=fun(w':World) (h:Below w6.heap.size w6 w')=>chains_calls hU6 hF6 h HSM.out HPT.out HRK.out
 have HCP:=Lh (fun(w':World) (h:Below w6.heap.size w6 w')=>copyS_calls hF6 h HBP.out);have HF6:=Lh hF6;clear hw6 hK6 hG6 hG u0 y0 y1 hb5 hB4 hW4 q0 q1 q2 ql v0 v1 v2 w0 w1 w2 vl hpr hF6 hU6;have q0:=u6.cell 0;have q1:=u6.cell 1;have q2:=u6.cell 2;have ql:=u6.lt;simp at q0 q1 q2
 go_upto_region 8 with(go_at_call 41;refine(hch _ (Br _ _)).mono ?_;rintro e w7 ⟨gn,gh,L,hs,rfl,hn7,hh7,hb7⟩)
 have HS:=Lh hs;obtain⟨wA,hwA⟩:∃wA:World,wA=w7.alloc (.cells #[.slice (some ⟨gn,0,none⟩) H.blocks.length H.blocks.length,.slice (some ⟨gh,0,none⟩) H.blocks.length H.blocks.length] 85):=⟨_,rfl⟩
 go_loud (rw[← hwA])
 have hbA:Below w6.heap.size w6 wA:=by rw[hwA];exact hb7.alloc hb7.size _
 have rA:BoxAt wA w7.heap.size #[.slice (some ⟨gn,0,none⟩) H.blocks.length H.blocks.length,.slice (some ⟨gh,0,none⟩) H.blocks.length H.blocks.length] 85:=by rw[hwA];exact BoxAt.new _ _ _
 have nA:BoxAt wA gn ((nxL H H.blocks.length).map (Value.int .i64)).toArray 3:=by rw[hwA];exact hn7.alloc _
 have hA:BoxAt wA gh (L.map (Value.int .i64)).toArray 3:=by rw[hwA];exact hh7.alloc _
 have uA:=u6.below hbA u6.lt;have tA:=t6.below hbA t6.lt;have hBA:=hB6.trans (hbA.mono hB6.size);clear hwA hn7 hh7 hb7 hch u6 t6 hs q0 q1 q2 ql;have q2:=uA.cell 2;have ql:=uA.lt;simp at q2;go_wp2_with(at_make;refine wpList_make_full _ rfl _ _ 23 rfl wA.heap.size 3 ib _ 1 Tryz.underlying23 hib hz0 hz1 _ _ _ _ _ rfl rfl rfl rfl (by rw[hz2];omega) (by unfold maxLen;omega) (Nr _) ?_;intro w1 hs1 hg1);have hb1:Below wA.heap.size wA w1:=(Br _ _).grown hg1 (Nr _) (fun k hk=>by cases hk);have m1:BoxAt w1 wA.heap.size ((nmL H 0).map (Value.int .i64)).toArray 3:=by
  have h1:=(own_row hs1).2;rw[nmL_zero,List.map_replicate];simpa[BoxAt,Value.cells,toList_madeCells_one]using h1
 have hR1:TdR H L wA w1 w.heap.size w7.heap.size gn gh wA.heap.size (nmL H 0) (.slice A5 H.vars.length c5) (.slice A6 H.params.length c6) (.slice A7 H.blocks.length c7):=⟨uA.below hb1 uA.lt,rA.below hb1 rA.lt,nA.below hb1 nA.lt,hA.below hb1 hA.lt,m1,hb1⟩;have hd:wA.heap.size≠w.heap.size∧wA.heap.size≠w7.heap.size∧wA.heap.size≠gn∧wA.heap.size≠gh:=⟨ZO,by have:=rA.lt;omega,by have:=nA.lt;omega,by have:=hA.lt;omega⟩;have HLL:=Lh HS.out.len;have HUA:=Lh uA;have HTA:=Lh tA;have HBA:=Lh hBA;have HBA6:=Lh hbA;clear hs1 hg1 hb1 m1 uA rA nA hA tA q2 ql hz0 hz1 hz2 hib hBA hbA;generalize w7.heap.size=gr at *;obtain⟨gm,hgm⟩:∃gm,wA.heap.size=gm:=⟨_,rfl⟩;have HGM:=Lh hgm;rw[hgm]at hd hR1
 go_loud (rw[hgm])
 have hgmA:wA.heap.size≤gm:=by omega
 clear hgm
 go_loopw[8,46] (fun s8 s46 wr=>∃i:Nat,s8=.int .i64 (cntH H i:Int)∧s46=.int .i64 i∧i≤H.blocks.length∧TdR H L wA wr w.heap.size gr gn gh gm (nmL H i) (.slice A5 H.vars.length c5) (.slice A6 H.params.length c6) (.slice A7 H.blocks.length c7)) (fun _ s _=>H.blocks.length-(intOf s).toNat)
 case atStart=>exact⟨0,rfl,rfl,Nz _,hR1⟩
 case round=>as_aux_lemma=>
  clear hR1;obtain⟨i,rfl,rfl,hi,hR⟩:=hrel;have d1:=hd.1;have d2:=hd.2.1;have d3:=hd.2.2.1;have d4:=hd.2.2.2;have r1:=hR.br.cell 1;have rl:=hR.br.lt;have hl:=hR.bh.lt;have ml:=hR.bm.lt;have fm:=hR.bm.frozen i;simp at r1
  by_cases hlt:i<H.blocks.length
  · as_aux_lemma=>
    have ci:=hR.bh.at_ (by rw[HLL.out];exact hlt:i<L.length);have cm:=hR.bm.at_ (by rw[nmL_len];exact hlt:i<(nmL H i).length);have hcl:=cntH_le (F:=H) (i:=i);have HR:=Lh hR;clear hR;rcases HS.out.at_ i hlt with⟨e1,e2⟩|⟨y,e1,e2,-⟩
    · as_aux_lemma=>
      rw[e1]at ci;have HNY:=Lh (nmL_yes e2);have HCS:=Lh (show cntH H (i+1)=cntH H i+1 by rw[cntH_succ,e2];rfl);clear e1 e2;go_wp2;go_roundw
      case rel=>exact⟨i+1,by rw[HCS.out];go_num,ZN,hlt,by rw[← HNY.out];exact HR.out.set hgmA hd i _⟩
      case measure=>simp[intOf];omega
    · as_aux_lemma=>
      have e3:isHd H i=false:=by
       cases e:isHd H i
       · rfl
       · exact absurd e2 (hd_no e)
      rw[e1]at ci;have HNN:=Lh (nmL_no e3);have HCS:=Lh (show cntH H (i+1)=cntH H i by rw[cntH_succ,e3];rfl);have hy:((y:Int)==-1)=false:=by simp
      clear e1 e2 e3;go_wp2;go_roundw
      case rel=>exact⟨i+1,by rw[HCS.out],ZN,hlt,by rw[← HNN.out];exact HR.out⟩
      case measure=>simp[intOf];omega
  · as_aux_lemma=>
    obtain rfl:i=H.blocks.length:=by omega
    rw[nmM_zero (L:=L)]at hR;have HR0:=Lh hR;clear hR hi hlt r1 rl hl ml fm;go_wp2_with fail
    go_loopw[64] (fun s64 wr=>∃i:Nat,s64=.int .i64 i∧i≤H.blocks.length∧TdR H L wA wr w.heap.size gr gn gh gm (nmM H L i) (.slice A5 H.vars.length c5) (.slice A6 H.params.length c6) (.slice A7 H.blocks.length c7)) (fun s _=>H.blocks.length-(intOf s).toNat)
    case atStart=>exact⟨0,rfl,Nz _,HR0.out⟩
    case round=>as_aux_lemma=>
     clear HR0;obtain⟨i,rfl,hi,hR⟩:=hrel;have r1:=hR.br.cell 1;have rl:=hR.br.lt;have hl:=hR.bh.lt;have ml:=hR.bm.lt;have fm:=hR.bm.frozen i;simp at r1
     by_cases hlt:i<H.blocks.length
     · as_aux_lemma=>
       have ci:=hR.bh.at_ (by rw[HLL.out];exact hlt:i<L.length);have cm:=hR.bm.at_ (by rw[nmM_len];exact hlt:i<(nmM H L i).length);have HR:=Lh hR;rcases HS.out.at_ i hlt with⟨e1,e2⟩|⟨y,e1,e2,e4⟩
       · as_aux_lemma=>
         rw[e1]at ci;have HNY:=Lh (nmM_no (L:=L) e2);clear e1 e2 hR;go_wp2;go_roundw
         case rel=>exact⟨i+1,ZN,hlt,by rw[← HNY.out];exact HR.out⟩
         case measure=>simp[intOf];omega
       · as_aux_lemma=>
         have e3:isHd H i=false:=by
          cases e:isHd H i
          · rfl
          · exact absurd e2 (hd_no e)
         have hyl:=e2.in_;have cy:=hR.bm.at_ (by rw[nmM_len];exact hyl:y<(nmM H L i).length);rw[nmM_hd hyl (e4 hlt)]at cy;rw[e1]at ci;have HNN:=Lh (nmM_yes (L:=L) e3);rw[e1,Int.toNat_natCast]at HNN;have hy:((y:Int) !=-1)=true:=by simp
         clear e1 e2 e3 e4 hR;go_wp2;go_roundw
         case rel=>exact⟨i+1,ZN,hlt,by rw[← HNN.out];exact HR.out.set hgmA hd i _⟩
         case measure=>simp[intOf];omega
     · as_aux_lemma=>
       obtain rfl:i=H.blocks.length:=by omega
       clear hi hlt r1 rl hl ml fm;obtain⟨wq,rfl⟩:∃wq:World,wq=wr:=⟨_,rfl⟩;have HR:=Lh hR;have HBW:=Lh (HBA6.out.trans (hR.hb.mono HBA6.out.size));have HB:=Lh (HBA.out.trans (hR.hb.mono HBA.out.size));have q0:=hR.bx.cell 0;have q1:=hR.bx.cell 1;have q2:=hR.bx.cell 2;have ql:=hR.bx.lt;have hfd:∀(A B C:Option Addr) (a b c d e f:Nat) (w:World),(Instr.field 26 (.agg #[.slice A a b,.slice B c d,.slice C e f]) 2).run Tryz.prog w=.ok (.slice C e f) w:=fun _ _ _ _ _ _ _ _ _ _=>by kernel_rfl
       simp at q0 q1 q2;clear hR
       go_upto_region 23 with fail
       go_cut[12,13] (fun s12 s13 wx=>∃(gO B2:Nat) (v0 v1 v2 vall:Value) (ps:List XBlk),s12=.pointer (some ⟨gO,0,none⟩)∧s13=vall∧Copied H wq wx gO B2 v0 v1 v2 vall ps)
       case first=>as_aux_lemma=>
        obtain⟨S0,hS0⟩:∃S0:World→Prop,S0=fun w'=>w'.cell? ⟨w.heap.size,0,none⟩=some (.slice A5 H.vars.length c5)∧w'.cell? ⟨w.heap.size,1,none⟩=some (.slice A6 H.params.length c6)∧w'.cell? ⟨w.heap.size,2,none⟩=some (.slice A7 H.blocks.length c7)∧Below wq.heap.size wq w'∧w.heap.size<w'.heap.size:=⟨_,rfl⟩
        have HS0:=Lh hS0;clear hS0;have k0:=fun xw=>(WS.at HS0 xw).1
        have k1:=fun xw=>(WS.at HS0 xw).2.1
        have k2:=fun xw=>(WS.at HS0 xw).2.2.1
        have k3:=fun xw=>(WS.at HS0 xw).2.2.2.1
        have k4:=fun xw=>(WS.at HS0 xw).2.2.2.2
        refine wp_region_treeE (S:=S0) [6,7] ZK ?hS (fun hSc hcl=>?_)
        case hS=>
         rw[HS0.out];exact⟨ZI,ZI,ZI,BL,ZJ⟩
        have hne0:Nonempty (WS S0):=⟨⟨_,hSc⟩⟩;have hneT:Nonempty (WS (fun _=>True)):=match hne0 with|⟨x⟩=>⟨⟨x.w,trivial⟩⟩
        refine wpTreeE_run [(0,0),(2,0)] 6 rfl ZK (fun _ _ _ _ _ h=>h) hSc hcl ?_
        all_goals
         (try simp only[List.map_cons,List.map_nil,Ld,Le])
         repeat
          first
          |((with_reducible refine wpSch3_lk ?_ ?_);exact rfl;dsimp only;go_big_quiet_step (fail);(try with_reducible refine wpQuiet_nil ?_);(try dsimp only))
          |((with_reducible refine wpSch3_fr ?_ ?_);exact rfl;dsimp only;go_big_quiet_step (fail);(try with_reducible refine wpQuiet_nil ?_);(try dsimp only))
          |((with_reducible refine wpSch3_at ?_ ?_ (fun K hK=>?_))
            exact rfl;exact rfl;dsimp only;go_simp;(try go_wp2_with(go_at_call 42;refine(HCP.out _ (HBW.out.trans (Below.mono BL HBW.out.size))).mono ?_;first|(have hba':=hba;rintro e wB1 ⟨z0,z1,z2,ps,rfl,hVb,hIb,hps,hRb,hpw,hbb⟩;obtain⟨E0,e0,rfl⟩:=hVb.form;obtain⟨E1,e1,rfl⟩:=own_form hIb;obtain⟨E2,e2,rfl⟩:=hRb.form;clear hVb hIb;have hb9:=hbb;obtain⟨hc9,hf9⟩:=bcell hb9;have hz9:=hb9.size;(try simp at hz9);(try(have z8:=z7.below hbb z7.lt;have z80:=z8.cell 0;have z81:=z8.cell 1;have z82:=z8.cell 2;have y80:=z8.frozen 0;have y81:=z8.frozen 1;have y82:=z8.frozen 2;have z8l:=z8.lt;simp at z80 z81 z82)))|(rintro e wA1 ⟨z0,z1,z2,ps1,rfl,hVa,hIa,-,hRa,-,hba⟩;obtain⟨D0,d0,rfl⟩:=hVa.form;obtain⟨D1,d1,rfl⟩:=own_form hIa;obtain⟨D2,d2,rfl⟩:=hRa.form;clear hRa;have hb9:=hba;obtain⟨hc9,hf9⟩:=bcell hb9;have hz9:=hb9.size;(try simp at hz9);(try(have z7:=BoxAt.below (BoxAt.drew (BoxAt.new _ _ _)) hba ZS));(try simp at z7))));refine hK.out _ _ ?hS (fun hSc=>?_)
            case hS=>
             first
             |exact hSc
             |(rw[HS0.out]at hSc ⊢;obtain⟨p0,p1,p2,p3,p4⟩:=hSc;exact⟨ZC0,ZC1,ZC2,(by first|exact p3.trans (hb9.mono (by have:=p3.size;first|omega|(simp at this ⊢;omega)))|exact BL),(by first|exact Nt p4 hb9.size|exact ZT)⟩)
             |(rw[HS0.out]at hSc ⊢;obtain⟨p0,p1,p2,p3,p4⟩:=hSc;exact⟨ZC,ZC,ZC,BL,ZT⟩)
            clear hK K)
         (try(refine wpSch3_nil ?_;intro hSc hcl))
        refine wpTreeE_fork 1 5 5 rfl ZK hSc hcl ?_ ?_
        all_goals
         (try simp only[Ld,Le])
         repeat
          first
          |((with_reducible refine wpSch3_lk ?_ ?_);exact rfl;dsimp only;go_big_quiet_step (fail);(try with_reducible refine wpQuiet_nil ?_);(try dsimp only))
          |((with_reducible refine wpSch3_fr ?_ ?_);exact rfl;dsimp only;go_big_quiet_step (fail);(try with_reducible refine wpQuiet_nil ?_);(try dsimp only))
          |((with_reducible refine wpSch3_at ?_ ?_ (fun K hK=>?_))
            exact rfl;exact rfl;dsimp only;go_simp;(try go_wp2_with(go_at_call 42;refine(HCP.out _ (HBW.out.trans (Below.mono BL HBW.out.size))).mono ?_;first|(have hba':=hba;rintro e wB1 ⟨z0,z1,z2,ps,rfl,hVb,hIb,hps,hRb,hpw,hbb⟩;obtain⟨E0,e0,rfl⟩:=hVb.form;obtain⟨E1,e1,rfl⟩:=own_form hIb;obtain⟨E2,e2,rfl⟩:=hRb.form;clear hVb hIb;have hb9:=hbb;obtain⟨hc9,hf9⟩:=bcell hb9;have hz9:=hb9.size;(try simp at hz9);(try(have z8:=z7.below hbb z7.lt;have z80:=z8.cell 0;have z81:=z8.cell 1;have z82:=z8.cell 2;have y80:=z8.frozen 0;have y81:=z8.frozen 1;have y82:=z8.frozen 2;have z8l:=z8.lt;simp at z80 z81 z82)))|(rintro e wA1 ⟨z0,z1,z2,ps1,rfl,hVa,hIa,-,hRa,-,hba⟩;obtain⟨D0,d0,rfl⟩:=hVa.form;obtain⟨D1,d1,rfl⟩:=own_form hIa;obtain⟨D2,d2,rfl⟩:=hRa.form;clear hRa;have hb9:=hba;obtain⟨hc9,hf9⟩:=bcell hb9;have hz9:=hb9.size;(try simp at hz9);(try(have z7:=BoxAt.below (BoxAt.drew (BoxAt.new _ _ _)) hba ZS));(try simp at z7))));refine hK.out _ _ ?hS (fun hSc=>?_)
            case hS=>
             first
             |exact hSc
             |(rw[HS0.out]at hSc ⊢;obtain⟨p0,p1,p2,p3,p4⟩:=hSc;exact⟨ZC0,ZC1,ZC2,(by first|exact p3.trans (hb9.mono (by have:=p3.size;first|omega|(simp at this ⊢;omega)))|exact BL),(by first|exact Nt p4 hb9.size|exact ZT)⟩)
             |(rw[HS0.out]at hSc ⊢;obtain⟨p0,p1,p2,p3,p4⟩:=hSc;exact⟨ZC,ZC,ZC,BL,ZT⟩)
            clear hK K)
         (try(refine wpSch3_nil ?_;intro hSc hcl))
        refine wpTreeE_fork 3 5 4 rfl ZK hSc hcl ?_ ?_
        rotate_left 2
        refine wpTreeE_run [(1,1),(3,1),(4,2)] 2 rfl ZK (fun _ _ _ _ _ h=>h) hSc hcl ?_
        rotate_left
        all_goals
         (try simp only[List.map_cons,List.map_nil,Ld,Le])
         repeat
          first
          |((with_reducible refine wpSch3_lk ?_ ?_);exact rfl;dsimp only;go_big_quiet_step (fail);(try with_reducible refine wpQuiet_nil ?_);(try dsimp only))
          |((with_reducible refine wpSch3_fr ?_ ?_);exact rfl;dsimp only;go_big_quiet_step (fail);(try with_reducible refine wpQuiet_nil ?_);(try dsimp only))
          |((with_reducible refine wpSch3_at ?_ ?_ (fun K hK=>?_))
            exact rfl;exact rfl;dsimp only;go_simp;(try go_wp2_with(go_at_call 42;refine(HCP.out _ (HBW.out.trans (Below.mono BL HBW.out.size))).mono ?_;first|(have hba':=hba;rintro e wB1 ⟨z0,z1,z2,ps,rfl,hVb,hIb,hps,hRb,hpw,hbb⟩;obtain⟨E0,e0,rfl⟩:=hVb.form;obtain⟨E1,e1,rfl⟩:=own_form hIb;obtain⟨E2,e2,rfl⟩:=hRb.form;clear hVb hIb;have hb9:=hbb;obtain⟨hc9,hf9⟩:=bcell hb9;have hz9:=hb9.size;(try simp at hz9);(try(have z8:=z7.below hbb z7.lt;have z80:=z8.cell 0;have z81:=z8.cell 1;have z82:=z8.cell 2;have y80:=z8.frozen 0;have y81:=z8.frozen 1;have y82:=z8.frozen 2;have z8l:=z8.lt;simp at z80 z81 z82)))|(rintro e wA1 ⟨z0,z1,z2,ps1,rfl,hVa,hIa,-,hRa,-,hba⟩;obtain⟨D0,d0,rfl⟩:=hVa.form;obtain⟨D1,d1,rfl⟩:=own_form hIa;obtain⟨D2,d2,rfl⟩:=hRa.form;clear hRa;have hb9:=hba;obtain⟨hc9,hf9⟩:=bcell hb9;have hz9:=hb9.size;(try simp at hz9);(try(have z7:=BoxAt.below (BoxAt.drew (BoxAt.new _ _ _)) hba ZS));(try simp at z7))));refine hK.out _ _ ?hS (fun hSc=>?_)
            case hS=>
             first
             |exact hSc
             |(rw[HS0.out]at hSc ⊢;obtain⟨p0,p1,p2,p3,p4⟩:=hSc;exact⟨ZC0,ZC1,ZC2,(by first|exact p3.trans (hb9.mono (by have:=p3.size;first|omega|(simp at this ⊢;omega)))|exact BL),(by first|exact Nt p4 hb9.size|exact ZT)⟩)
             |(rw[HS0.out]at hSc ⊢;obtain⟨p0,p1,p2,p3,p4⟩:=hSc;exact⟨ZC,ZC,ZC,BL,ZT⟩)
            clear hK K)
         (try(refine wpSch3_nil ?_;intro hSc hcl))
        refine wpTreeE_run [(4,2),(5,1)] 2 rfl ZK (fun _ _ _ _ _ h=>h) hSc hcl ?_
        rotate_left
        refine wpTreeE_run [(3,1),(4,2)] 2 rfl ZK (fun _ _ _ _ _ h=>h) hSc hcl ?_
        rotate_left
        rotate_left
        all_goals
         (try simp only[List.map_cons,List.map_nil,Ld,Le])
         repeat
          first
          |((with_reducible refine wpSch3_lk ?_ ?_);exact rfl;dsimp only;go_big_quiet_step (fail);(try with_reducible refine wpQuiet_nil ?_);(try dsimp only))
          |((with_reducible refine wpSch3_fr ?_ ?_);exact rfl;dsimp only;go_big_quiet_step (fail);(try with_reducible refine wpQuiet_nil ?_);(try dsimp only))
          |((with_reducible refine wpSch3_at ?_ ?_ (fun K hK=>?_))
            exact rfl;exact rfl;dsimp only;go_simp;(try go_wp2_with(go_at_call 42;refine(HCP.out _ (HBW.out.trans (Below.mono BL HBW.out.size))).mono ?_;first|(have hba':=hba;rintro e wB1 ⟨z0,z1,z2,ps,rfl,hVb,hIb,hps,hRb,hpw,hbb⟩;obtain⟨E0,e0,rfl⟩:=hVb.form;obtain⟨E1,e1,rfl⟩:=own_form hIb;obtain⟨E2,e2,rfl⟩:=hRb.form;clear hVb hIb;have hb9:=hbb;obtain⟨hc9,hf9⟩:=bcell hb9;have hz9:=hb9.size;(try simp at hz9);(try(have z8:=z7.below hbb z7.lt;have z80:=z8.cell 0;have z81:=z8.cell 1;have z82:=z8.cell 2;have y80:=z8.frozen 0;have y81:=z8.frozen 1;have y82:=z8.frozen 2;have z8l:=z8.lt;simp at z80 z81 z82)))|(rintro e wA1 ⟨z0,z1,z2,ps1,rfl,hVa,hIa,-,hRa,-,hba⟩;obtain⟨D0,d0,rfl⟩:=hVa.form;obtain⟨D1,d1,rfl⟩:=own_form hIa;obtain⟨D2,d2,rfl⟩:=hRa.form;clear hRa;have hb9:=hba;obtain⟨hc9,hf9⟩:=bcell hb9;have hz9:=hb9.size;(try simp at hz9);(try(have z7:=BoxAt.below (BoxAt.drew (BoxAt.new _ _ _)) hba ZS));(try simp at z7))));refine hK.out _ _ ?hS (fun hSc=>?_)
            case hS=>
             first
             |exact hSc
             |(rw[HS0.out]at hSc ⊢;obtain⟨p0,p1,p2,p3,p4⟩:=hSc;exact⟨ZC0,ZC1,ZC2,(by first|exact p3.trans (hb9.mono (by have:=p3.size;first|omega|(simp at this ⊢;omega)))|exact BL),(by first|exact Nt p4 hb9.size|exact ZT)⟩)
             |(rw[HS0.out]at hSc ⊢;obtain⟨p0,p1,p2,p3,p4⟩:=hSc;exact⟨ZC,ZC,ZC,BL,ZT⟩)
            clear hK K)
         (try(refine wpSch3_nil ?_;intro hSc hcl))
        all_goals
         refine wpTreeE_end [6,7] rfl ZK ?_;simp only[List.map_cons,List.map_nil,Ld,Le];rw[HS0.out]at hSc;obtain⟨p0,p1,p2,p3,p4⟩:=hSc;clear hne0 hneT hcl HS0 k0 k1 k2 k3 k4
        · go_wp2_with fail
          go_meet
          exact⟨_,_,_,_,_,_,ps,rfl,rfl,Copied.of hVa hIa hbb (Nr _) hRb hps hpw (KT.refl.alloc _) (BoxAt.new _ _ _) (Nr _) (Nat.le_trans hba.size hbb.size) hba.size ((((Br wq.heap.size wq).drew.trans hba).trans (hbb.mono hba.size)).alloc (Nat.le_trans hba.size hbb.size) _)⟩
        · go_wp2_with fail
          go_meet
          have z9:=BoxAt.below (BoxAt.new _ _ _) hbb ZS;exact⟨_,_,_,_,_,_,ps,rfl,rfl,Copied.of hVa hIa ((bel_alloc _ _).trans (hbb.mono ZS)) ZS hRb hps hpw (((KT.refl.setCell z9 ZS _).setCell (z9.set 0 _) ZS _).setCell ((z9.set 0 _).set 1 _) ZS _) z9.set3 (Nr _) hba.size hba.size (((p3.setCell (p:=⟨wA1.heap.size,0,none⟩) hba.size _).setCell (p:=⟨wA1.heap.size,1,none⟩) hba.size _).setCell (p:=⟨wA1.heap.size,2,none⟩) hba.size _)⟩
        · go_wp2_with fail
          go_meet
          exact⟨_,_,_,_,_,_,ps,rfl,rfl,Copied.of hVa hIa hbb (Nr _) hRb hps hpw (((KT.refl.setCell z8 ZS _).setCell (z8.set 0 _) ZS _).setCell ((z8.set 0 _).set 1 _) ZS _) z8.set3 ZS (Nr _) (by have:=hba.size;simp at this;omega) (((p3.setCell (p:=⟨wq.heap.size,0,none⟩) (Nr _) _).setCell (p:=⟨wq.heap.size,1,none⟩) (Nr _) _).setCell (p:=⟨wq.heap.size,2,none⟩) (Nr _) _)⟩
       case rest=>as_aux_lemma=>
        obtain⟨gO,B2,v0,v1,v2,vall,ps,rfl,rfl,hgO,hB2,box,hV,hI,hv1,hps,hRb,hpw,hbel⟩:=hcut;clear q0 q1 q2 ql hfd;have bf2:=box.frozen 2;have bt2:=box.cell 2;have bl2:=box.lt;simp at bt2;obtain⟨Ab,cb,rfl⟩:=hRb.form;obtain⟨A8,c8,rfl⟩:=hV.form;obtain⟨A9,c9,rfl⟩:=own_form hI;have HPS:=Lh hps;have HPW:=Lh hpw;have HBX:=Lh box;have HV:=Lh hV;have HI:=Lh hI;have HV1:=Lh hv1;have HRB:=Lh hRb;have HBEL:=Lh hbel;have HPL:=Lh (show ps.length=H.blocks.length by rw[← hps,List.length_map]);clear hps hpw box hV hI hv1 hRb hbel
        go_upto_region 25 with fail
        obtain⟨w0,hw0⟩:∃w0:World,w0=wc.setCell ⟨gO,2,none⟩ (.slice none 0 0):=⟨_,rfl⟩
        go_loud (rw[← hw0])
        have hK0:KT [3,64,67,62,78] wc w0:=by rw[hw0];exact KT.refl.setCell HBX.out ZS _
        have b0:BoxAt w0 gO #[.slice A8 H.vars.length c8,.slice A9 H.params.length c9,.slice none 0 0] 26:=by rw[hw0];simpa using HBX.out.set 2 (.slice none 0 0)
        have V0:=HV.out.kt hK0 ZS fun _ _ h=>h
        have I0:=own_kt HI.out hK0 ZS;have R0:=HRB.out.kt hK0 ZS fun _ _ h=>CBS.kt h hK0 ZS ZS ZS
        have bel0:Below wq.heap.size wq w0:=by rw[hw0];exact HBEL.out.setCell (p:=⟨gO,2,none⟩) hgO _
        have hok:PsOk w0 wq.heap.size gO (.slice A8 H.vars.length c8) (.slice A9 H.params.length c9) (.slice Ab ps.length cb) ps:=PsOk.of ⟨_,_,b0,ZS⟩ hB2 (fun b hb=>⟨own_nt I0 ZS b (own_lt I0 hb).1 hb,HV1.out b hb⟩) R0 (Br _ _) HPW.out;have T0:=TdI.start (F:=H) hB2 V0 I0 R0 (Br _ _) hok b0 bel0;have HOK:=Lh hok;have HT0:=Lh T0;have hps64:ps.length≤64:=by rw[HPL.out];exact n2
        have hw0s:wq.heap.size≤w0.heap.size:=bel0.size;have hw0b:=Lh bel0;clear hw0 hK0 b0 V0 I0 R0 bel0 hok T0 HBX HV HI HV1 HRB HBEL bf2 bt2 bl2;go_wp2_with fail
        go_loopw[90] (fun s wr=>∃(i:Nat) (vq:Value) (qs:List (PBlock×Value×Value)) (LB:List PBlock),s=.int .i64 i∧i≤ps.length∧Hid (ResT H L i LB)∧TdI H w0 wq ps wr gO (.slice A8 H.vars.length c8) (.slice A9 H.params.length c9) (.slice Ab ps.length cb) LB i vq qs) (fun s _=>ps.length-(intOf s).toNat)
        case atStart=>exact⟨0,_,[],[],rfl,Nz _,ResT.zero,HT0.out⟩
        case round=>as_aux_lemma=>
         clear HT0;obtain⟨i,vq,qs,LB,rfl,hi,HRES,hTd⟩:=hrel;have hRr:=HR.out.below hTd.bel;obtain⟨Aq,cq,rfl⟩:=hTd.hq.form
         by_cases hlt:i<ps.length
         · as_aux_lemma=>
           obtain⟨gb,cap,cs,hvs,hcap,hgb0,hgb1,hfb,hcs,hcells,hcb⟩:=hTd.hp.cells (i:=i) (by rw[List.length_map];exact hlt);simp only[Value.slice.injEq]at hvs;obtain⟨rfl,-,rfl⟩:=hvs;have hpi:ps[i]?=some ps[i]:=List.getElem?_eq_getElem hlt;have hin:i<H.blocks.length:=by rw[← HPL.out];exact hlt
           have hpb:ps[i].b=H.blk i:=by
            have h1:=congrArg (fun l:List PBlock=>l[i]?) HPS.out;simp only[List.getElem?_map,hpi,Option.map_some]at h1;rw[PFunc.blk_get hin]at h1;exact Option.some.inj h1
           rw[List.getElem_map]at hcb;generalize ps[i]=p at *;have hpm:=List.mem_of_getElem? hpi;obtain⟨AP,cP,hvp⟩:=(hTd.ep i p (Nr _) hpi).form;obtain⟨AI,cI,hvi⟩:=(hTd.el i p (.inr (Nr _)) hpi).form;obtain⟨hce,hnz⟩:=hcb;change p.b.name.size≤maxLen at hnz;rw[hpb]at hnz hvi;subst hce;have k0:=hcells 0 _ rfl;rw[Nat.add_zero]at k0;have k1:=hcells 1 _ rfl;have k2:=hcells 2 _ rfl;have k3:=hcells 3 _ rfl;have k4:=hcells 4 _ rfl;have k5:=hcells 5 _ rfl;have k6:=hcells 6 _ rfl;simp only[XBlk.old,hpb,hvp,hvi]at k0 k1 k2 k3 k4 k5 k6;have r1:=hRr.br.cell 1;have rl:=hRr.br.lt;have hl:=hRr.bh.lt;have ci:=hRr.bh.at_ (by rw[HLL.out];exact hin:i<L.length);simp at r1;obtain⟨wi,rfl⟩:∃wi:World,wi=wr:=⟨_,rfl⟩;have HTD:=Lh hTd;have HRR:=Lh hRr;have hwi:w0.heap.size≤wi.heap.size:=hTd.sz;clear hTd hcells hcs hRr hfb hgb0 hcap;rcases HS.out.at_ i hin with⟨e1,e2⟩|⟨y,e1,e2,-⟩
           · as_aux_lemma=>
             rw[e1]at ci;have HHD:=Lh e2;obtain⟨wB,hwB⟩:∃wB:World,wB=wi.alloc (.cells #[.string (H.blk i).name,.slice AP p.es.length cP,.slice AI (H.blk i).insts.length cI,.int .i64 (H.blk i).term.kind,.int .i64 (H.blk i).term.var,.int .i64 (H.blk i).term.t0,.int .i64 (H.blk i).term.t1] 62):=⟨_,rfl⟩;have hbB:Below wi.heap.size wi wB:=by rw[hwB];exact bel_alloc _ _
             have bB:BoxAt wB wi.heap.size #[.string (H.blk i).name,.slice AP p.es.length cP,.slice AI (H.blk i).insts.length cI,.int .i64 (H.blk i).term.kind,.int .i64 (H.blk i).term.var,.int .i64 (H.blk i).term.t0,.int .i64 (H.blk i).term.t1] 62:=by rw[hwB];exact BoxAt.new _ _ _
             have hsB:wB.heap.size=wi.heap.size+1:=by rw[hwB];simp
             clear e1 e2
             go_upto_region 29 with fail
             go_loud (rw[← hwB])
             clear hwB k0 k1 k2 k3 k4 k5 k6 r1 rl hl ci;have hRB:=HRR.out.below hbB;have r0:=hRB.br.cell 0;have rl:=hRB.br.lt;have nl:=hRB.bn.lt;have cn:=hRB.bn.at_ (by rw[nxL_len];exact hin:i<(nxL H H.blocks.length).length);rw[nx_at hin]at cn;simp at r0;have RI0:RRow wB wq.heap.size 67 4 (CInst wB (D0 w0 ps)) (.slice AI (H.blk i).insts.length cI) (H.blk i).insts:=by
              have h1:=(HTD.out.below hbB).el i p (.inr (Nr _)) hpi;rw[hvi,hpb]at h1;exact h1
             have HB0:=Lh bB;have HI0:=Lh RI0;have HK0:=Lh (Kp.below (D:=Ky p) hbB (fun _ h _=>h));clear hRB bB RI0 hbB;go_wp2_with fail
             go_loopw[16] (fun s wr=>∃(j:Nat) (vI:Value) (M:List PInst),s=.int .i64 (nxt H j)∧j<H.blocks.length∧Hid (Pth H i M j)∧BoxAt wr wi.heap.size #[.string (H.blk i).name,.slice AP p.es.length cP,vI,.int .i64 (H.blk j).term.kind,.int .i64 (H.blk j).term.var,.int .i64 (H.blk j).term.t0,.int .i64 (H.blk j).term.t1] 62∧RRow wr wq.heap.size 67 4 (CInst wr (D0 w0 ps)) vI M∧Hid (∀k,vI.ownBlock=some k→p.vi.ownBlock=some k∨wi.heap.size<k)∧Kp (Ky p) wi wr) (fun s _=>if intOf s<0 then 0 else H.blocks.length+1-ordR H (intOf s).toNat)
             case atStart=>exact⟨i,_,_,rfl,hin,Pth.one,HB0.out,HI0.out,fun k hk=>.inl (by rw[hvi];exact hk),HK0.out⟩
             case round=>as_aux_lemma=>
              clear HB0 HI0 HK0 r0 rl nl cn hsB;obtain⟨j,vI,M,rfl,hj,HPTH,hbx,hI,HOWN,hKp⟩:=hrel;have hTw:=HTD.out.kp HOK.out hpi HHD.out hKp.kx;have hRr:=HR.out.below hTw.bel;obtain⟨AM,cM,rfl⟩:=hI.form;have hwr:=hKp.size;cases hfo:foT H j
              · as_aux_lemma=>
                have HNX:=Lh (show nxt H j=-1 by unfold nxt;rw[hfo];rfl);have HCH:=Lh (Pth.ch HPTH hfo);have HRG:=Lh (And.intro ((typed_rg HPT.out).t0 j hj) ((typed_rg HPT.out).t1 j hj));have hP:=phis_ky HTD.out HOK.out hpi hKp;have HFR:=Lh (fun(e:PPhi×Value×Value) (he:e∈p.es) (x:Int) (hx:x∈e.1.froms)=>(typed_rg HPT.out).fr i hin e.1 (by rw[← hpb,← HOK.out.me p hpm];exact List.mem_map_of_mem he) x hx);have HAP:=Lh (List.pairwise_append.1 (HOK.out.ap p hpm)).1;have hpe:p.es.length≤100000:=by
                 have h1:=congrArg List.length (HOK.out.me p hpm);rw[List.length_map,hpb]at h1;rw[h1];exact(HBP.out.parts _ (mem_of_blk hin)).1
                rw[HNX.out];generalize (H.blk j).term=T at *;rw[hvp]at hP;have c1:=hbx.cell 1;have bl:=hbx.lt;simp at c1;have HP:=Lh hP;have HBX:=Lh hbx;have HI:=Lh hI;have HKP:=Lh hKp.kx;have HPB:=Lh hpb;have HVP:=Lh hvp;have HVI:=Lh hvi;have hmn:((-1:Int) !=-1)=false:=by decide
                clear hfo hP hbx hI hKp hTw hRr hpb hvp hvi HPTH;go_wp2_with fail;clear c1 bl hmn hwr
                go_loopw[131] (fun s wr=>∃k:Nat,s=.int .i64 k∧k≤p.es.length∧BoxAt wr wi.heap.size #[.string (H.blk i).name,.slice AP p.es.length cP,.slice AM M.length cM,.int .i64 T.kind,.int .i64 T.var,.int .i64 T.t0,.int .i64 T.t1] 62∧RRow wr wq.heap.size 64 3 (CPhT wr (D0 w0 ps) wq.heap.size) (.slice AP p.es.length cP) (mixL (tE (vI (numT H L))) k p.es)∧RRow wr wq.heap.size 67 4 (CInst wr (D0 w0 ps)) (.slice AM M.length cM) M∧Kp (Kx p) wi wr) (fun s _=>p.es.length-(intOf s).toNat)
                case atStart=>exact⟨0,rfl,Nz _,HBX.out,HP.out,HI.out,HKP.out⟩
                case round=>as_aux_lemma=>
                 clear HBX HP HI HKP;obtain⟨k,rfl,hk,hbx,hP,hI,hKx⟩:=hrel;have hTw:=HTD.out.kp HOK.out hpi HHD.out hKx;have hwr:=hKx.size
                 by_cases hkl:k<p.es.length
                 · as_aux_lemma=>
                   have hke:p.es[k]?=some p.es[k]:=List.getElem?_eq_getElem hkl;obtain⟨gp,capP,cs,hvs,-,-,hgp,-,-,hcells,hcph⟩:=hP.cells (i:=k) (by rw[mixL_len];exact hkl);simp only[Value.slice.injEq]at hvs;obtain⟨rfl,-,rfl⟩:=hvs;have hme:(mixL (tE (vI (numT H L))) k p.es)[k]'(by rw[mixL_len];exact hkl)=p.es[k]:=by
                    have h1:=mixL_at (f:=tE (vI (numT H L))) hkl;exact(List.getElem?_eq_some_iff.1 h1).2
                   have HSS:=Lh (show(mixL (tE (vI (numT H L))) k p.es).set k (pE (vI (numT H L)) 0 p.es[k])=mixL (tE (vI (numT H L))) k p.es by
                    rw[pE_zero]
                    conv=>lhs;rw[← hme]
                    exact List.set_getElem_self _)
                   have HSE:=Lh (show(mixL (tE (vI (numT H L))) k p.es).set k (pE (vI (numT H L)) p.es[k].1.froms.length p.es[k])=mixL (tE (vI (numT H L))) (k+1) p.es by
                    rw[pE_end]
                    exact mixL_set hkl)
                   rw[hme]at hcph;have hem:=List.mem_of_getElem? hke;generalize p.es[k]=e at *;obtain⟨hce,hda,hof⟩:=hcph;subst hce;obtain⟨AA,cA,hva,-⟩:=id hda;obtain⟨AF,cF,hvf⟩:=own_form hof.1;have k0:=hcells 0 _ rfl;rw[Nat.add_zero]at k0;have k1:=hcells 1 _ rfl;have k2:=hcells 2 _ rfl;rw[hva]at k1;rw[hvf]at k2;have hfl:=hof.2;obtain⟨ws,rfl⟩:∃ws:World,ws=wr:=⟨_,rfl⟩;obtain⟨wT,hwT⟩:∃wT:World,wT=ws.alloc (.cells #[.int .i64 e.1.dst,.slice AA e.1.args.length cA,.slice AF e.1.froms.length cF] 64):=⟨_,rfl⟩;have hbT:Below ws.heap.size ws wT:=by rw[hwT];exact bel_alloc _ _
                   have hXT:BoxAt wT ws.heap.size #[.int .i64 e.1.dst,.slice AA e.1.args.length cA,.slice AF e.1.froms.length cF] 64:=by rw[hwT];exact BoxAt.new _ _ _
                   have HXT:=Lh hXT;have HBT:=Lh (hbx.below hbT hbx.lt);have HPT2:=Lh (show RRow wT wq.heap.size 64 3 (CPhT wT (D0 w0 ps) wq.heap.size) (.slice (some ⟨gp,0,none⟩) p.es.length cP) ((mixL (tE (vI (numT H L))) k p.es).set k (pE (vI (numT H L)) 0 e)) by rw[HSS.out];exact prow_below hP hbT);have HIT:=Lh (irow_below hI hbT);have HKT:=Lh (kx_below hKx hbT);have HKE:=Lh hke;have HVF:=Lh hvf;clear hbT hXT hbx hP hI hKx hTw hcells hda hof hva hvf hke hme;go_wp2_with fail
                   go_loud (rw[← hwT])
                   clear hwT k0 k1 k2
                   go_loopw[138] (fun s wr=>∃m:Nat,s=.int .i64 m∧m≤e.1.froms.length∧BoxAt wr ws.heap.size #[.int .i64 e.1.dst,.slice AA e.1.args.length cA,.slice AF e.1.froms.length cF] 64∧BoxAt wr wi.heap.size #[.string (H.blk i).name,.slice (some ⟨gp,0,none⟩) p.es.length cP,.slice AM M.length cM,.int .i64 T.kind,.int .i64 T.var,.int .i64 T.t0,.int .i64 T.t1] 62∧RRow wr wq.heap.size 64 3 (CPhT wr (D0 w0 ps) wq.heap.size) (.slice (some ⟨gp,0,none⟩) p.es.length cP) ((mixL (tE (vI (numT H L))) k p.es).set k (pE (vI (numT H L)) m e))∧RRow wr wq.heap.size 67 4 (CInst wr (D0 w0 ps)) (.slice AM M.length cM) M∧Kp (Kx p) wi wr) (fun s _=>e.1.froms.length-(intOf s).toNat)
                   case atStart=>exact⟨0,rfl,Nz _,HXT.out,HBT.out,HPT2.out,HIT.out,HKT.out⟩
                   case round=>as_aux_lemma=>
                    clear HXT HBT HPT2 HIT HKT;obtain⟨m,rfl,hm,hX,hbx,hP,hI,hKx⟩:=hrel
                    by_cases hml:m<e.1.froms.length
                    · as_aux_lemma=>
                      have hTw:=HTD.out.kp HOK.out hpi HHD.out hKx;have hRr:=HR.out.below hTw.bel;have hfm:e.1.froms[m]?=some e.1.froms[m]:=List.getElem?_eq_getElem hml;obtain⟨c,hc,hcn⟩:=HFR.out e hem _ (List.mem_of_getElem? hfm);have hown:wr.ownsRow wq.heap.size 3 1 (.slice AF e.1.froms.length cF) (mixL (vI (numT H L)) m e.1.froms).length ((mixL (vI (numT H L)) m e.1.froms).map (Value.int .i64)):=by
                       have hkm:((mixL (tE (vI (numT H L))) k p.es).set k (pE (vI (numT H L)) m e))[k]?=some (pE (vI (numT H L)) m e):=List.getElem?_set_self (by rw[mixL_len];exact hkl);obtain⟨cs,-,-,ho⟩:=hP.all_ _ (List.mem_of_getElem? hkm);have h1:=ho.1;rw[← HVF.out];exact h1
                      rw[mixL_len]at hown;obtain⟨gf,rfl⟩:∃gf,AF=some ⟨gf,0,none⟩:=by
                       rcases hown.2 with⟨h1,h2⟩|⟨g,cap',cur,h1,-⟩
                       · exact ZO
                       · simp only[Value.slice.injEq]at h1
                         exact⟨g,h1.1⟩
                      have cf:=hown.cellAt m ZO;have ff:=hown.frozenAt m;have gfl:=(hown.lt _ rfl).2;rw[List.getElem?_map,mixL_at hml,hc]at cf;have hgf:NT [3] wr gf:=own_nt hown ZS gf (own_lt hown rfl).1 rfl;have hvg:e.2.2.ownBlock=some gf:=by rw[HVF.out];rfl
                      have hDg:¬D0 w0 ps gf:=fun h=>h.2 p hpm e hem hvg
                      have hgB:gf≠wi.heap.size:=by
                       rintro rfl;exact absurd (NT.two hgf ⟨_,_,hbx,ZS⟩:3=62) ZD
                      have hgX:gf≠ws.heap.size:=by
                       rintro rfl;exact absurd (NT.two hgf ⟨_,_,hX,ZS⟩:3=64) ZD
                      have cx:=hX.cell 2;have xl:=hX.lt;have cn:=hRr.bm.at_ (by rw[nmM_len];exact hcn:c<(nmM H L H.blocks.length).length);rw[nmM_at hcn]at cn;have gml:=hRr.bm.lt;simp at cx;have hcni:(c:Int)<(H.blocks.length:Int):=by omega
                      have HX:=Lh hX;have HBX:=Lh hbx;have HPP:=Lh hP;have HII:=Lh hI;have HKK:=Lh hKx;have HOWN:=Lh hown;have HCC:=Lh hc;have HGF:=Lh hgf;replace cf:wr.cell? ⟨gf,m,none⟩=some (.int .i64 (c:Int)):=cf;clear hX hbx hP hI hKx hTw hRr hown hfm hc hgf
                      go_upto_region 40 with fail
                      refine wp_region_monoL [143,144,145,146,147,148,149,150] (fun i w' v'=>(([fun _ v'=>v'=.pointer (some ⟨ws.heap.size,2,none⟩),fun _ v'=>v'=.slice (some ⟨gf,0,none⟩) e.1.froms.length cF,fun _ v'=>v'=.int .i64 (m:Int),fun _ v'=>v'=.slice (some ⟨gm,0,none⟩) H.blocks.length H.blocks.length,fun _ v'=>v'=.int .i64 (c:Int),fun _ v'=>v'=.pointer (some ⟨gm,c,none⟩),fun _ v'=>v'=.int .i64 (numT H L c:Int),fun _ v'=>v'=.pointer (some ⟨gf,m,none⟩)]:List (World→Value→Prop)).getD i (fun _ _=>True)) w' v') ZK ZK ZK ZD ZK ZD ?mono ?step ?last
                      case mono=>
                       intro i w1 w2 v hi hb h
                       match i,hi,h with
                       |0,_,h=>exact h
                       |1,_,h=>exact h
                       |2,_,h=>exact h
                       |3,_,h=>exact h
                       |4,_,h=>exact h
                       |5,_,h=>exact h
                       |6,_,h=>exact h
                       |7,_,h=>exact h
                       |k+8,hi,_=>exact absurd hi (Nat.not_lt_of_le (Nat.le_add_left _ _))
                      case step=>
                       intro i o vs w1 ho hi hl hb hp K hK;have hl0:vs.length=8:=hl;clear hl;obtain⟨v0,r0,rfl,hl1⟩:=len_cons (n:=7) hl0;obtain⟨v1,r1,rfl,hl2⟩:=len_cons (n:=6) hl1;obtain⟨v2,r2,rfl,hl3⟩:=len_cons (n:=5) hl2;obtain⟨v3,r3,rfl,hl4⟩:=len_cons (n:=4) hl3;obtain⟨v4,r4,rfl,hl5⟩:=len_cons (n:=3) hl4;obtain⟨v5,r5,rfl,hl6⟩:=len_cons (n:=2) hl5;obtain⟨v6,r6,rfl,hl7⟩:=len_cons (n:=1) hl6;obtain⟨v7,r7,rfl,hl8⟩:=len_cons (n:=0) hl7;obtain rfl:=List.eq_nil_of_length_eq_zero hl8;clear hl0 hl1 hl2 hl3 hl4 hl5 hl6 hl7 hl8
                       match i,ho,hi,hp with
                       |0,ho,hi,hp=>
                        obtain rfl:=Option.some.inj ho;clear hi;clear hp;simp only[putsL,Act.put,La,Lz,Lc];go_simp
                        try go_wp2
                        refine hK.out (.pointer (some ⟨ws.heap.size,2,none⟩)) _ _ ?_ ZE rfl;simp only[putsL,Act.put,La,Lz,Lc]
                       |1,ho,hi,hp=>
                        obtain rfl:=Option.some.inj ho;clear hi;have q0:v0=.pointer (some ⟨ws.heap.size,2,none⟩):=hp 0 ZK;obtain rfl:=q0;clear hp;simp only[putsL,Act.put,La,Lz,Lc];have z9:=(hb.cell (p:=⟨ws.heap.size,2,none⟩) xl).trans cx;have zl:ws.heap.size<w1.heap.size:=Nt xl hb.size;go_simp
                        try go_wp2
                        refine hK.out (.slice (some ⟨gf,0,none⟩) e.1.froms.length cF) _ _ ?_ ZE rfl;simp only[putsL,Act.put,La,Lz,Lc]
                       |2,ho,hi,hp=>
                        obtain rfl:=Option.some.inj ho;clear hi;clear hp;simp only[putsL,Act.put,La,Lz,Lc];go_simp
                        try go_wp2
                        refine hK.out (.int .i64 (m:Int)) _ _ ?_ ZE rfl;simp only[putsL,Act.put,La,Lz,Lc]
                       |3,ho,hi,hp=>
                        obtain rfl:=Option.some.inj ho;clear hi;clear hp;simp only[putsL,Act.put,La,Lz,Lc];go_simp
                        try go_wp2
                        refine hK.out (.slice (some ⟨gm,0,none⟩) H.blocks.length H.blocks.length) _ _ ?_ ZE rfl;simp only[putsL,Act.put,La,Lz,Lc]
                       |4,ho,hi,hp=>
                        obtain rfl:=Option.some.inj ho;clear hi;clear hp;simp only[putsL,Act.put,La,Lz,Lc];go_simp
                        try go_wp2
                        refine hK.out (.int .i64 (c:Int)) _ _ ?_ ZE rfl;simp only[putsL,Act.put,La,Lz,Lc]
                       |5,ho,hi,hp=>
                        obtain rfl:=Option.some.inj ho;clear hi;have q3:v3=.slice (some ⟨gm,0,none⟩) H.blocks.length H.blocks.length:=hp 3 ZK;have q4:v4=.int .i64 (c:Int):=hp 4 ZK;obtain rfl:=q3;obtain rfl:=q4;clear hp;simp only[putsL,Act.put,La,Lz,Lc];go_simp
                        try go_wp2
                        refine hK.out (.pointer (some ⟨gm,c,none⟩)) _ _ ?_ ZE rfl;simp only[putsL,Act.put,La,Lz,Lc]
                       |6,ho,hi,hp=>
                        obtain rfl:=Option.some.inj ho;clear hi;have q5:v5=.pointer (some ⟨gm,c,none⟩):=hp 5 ZK;obtain rfl:=q5;clear hp;simp only[putsL,Act.put,La,Lz,Lc];have z9:=(hb.cell (p:=⟨gm,c,none⟩) gml).trans cn;have zl:gm<w1.heap.size:=Nt gml hb.size;go_simp
                        try go_wp2
                        refine hK.out (.int .i64 (numT H L c:Int)) _ _ ?_ ZE rfl;simp only[putsL,Act.put,La,Lz,Lc]
                       |7,ho,hi,hp=>
                        obtain rfl:=Option.some.inj ho;clear hi;have q0:v0=.pointer (some ⟨ws.heap.size,2,none⟩):=hp 0 ZK;have q1:v1=.slice (some ⟨gf,0,none⟩) e.1.froms.length cF:=hp 1 ZK;have q2:v2=.int .i64 (m:Int):=hp 2 ZK;have q3:v3=.slice (some ⟨gm,0,none⟩) H.blocks.length H.blocks.length:=hp 3 ZK;have q4:v4=.int .i64 (c:Int):=hp 4 ZK;have q5:v5=.pointer (some ⟨gm,c,none⟩):=hp 5 ZK;have q6:v6=.int .i64 (numT H L c:Int):=hp 6 ZK;obtain rfl:=q0;obtain rfl:=q1;obtain rfl:=q2;obtain rfl:=q3;obtain rfl:=q4;obtain rfl:=q5;obtain rfl:=q6;clear hp;simp only[putsL,Act.put,La,Lz,Lc];go_simp
                        try go_wp2
                        refine hK.out (.pointer (some ⟨gf,m,none⟩)) _ _ ?_ ZE rfl;simp only[putsL,Act.put,La,Lz,Lc]
                       |k+8,_,hi,_=>exact absurd hi (Nat.not_lt_of_le (Nat.le_add_left _ _))
                      case last=>
                       intro vs w1 hl hb1 hp;have hl0:vs.length=8:=hl;clear hl;obtain⟨v0,r0,rfl,hl1⟩:=len_cons (n:=7) hl0;obtain⟨v1,r1,rfl,hl2⟩:=len_cons (n:=6) hl1;obtain⟨v2,r2,rfl,hl3⟩:=len_cons (n:=5) hl2;obtain⟨v3,r3,rfl,hl4⟩:=len_cons (n:=4) hl3;obtain⟨v4,r4,rfl,hl5⟩:=len_cons (n:=3) hl4;obtain⟨v5,r5,rfl,hl6⟩:=len_cons (n:=2) hl5;obtain⟨v6,r6,rfl,hl7⟩:=len_cons (n:=1) hl6;obtain⟨v7,r7,rfl,hl8⟩:=len_cons (n:=0) hl7;obtain rfl:=List.eq_nil_of_length_eq_zero hl8;clear hl0 hl1 hl2 hl3 hl4 hl5 hl6 hl7 hl8;have q0:v0=.pointer (some ⟨ws.heap.size,2,none⟩):=hp 0 (of_decide_eq_true ZK);have q1:v1=.slice (some ⟨gf,0,none⟩) e.1.froms.length cF:=hp 1 (of_decide_eq_true ZK);have q2:v2=.int .i64 (m:Int):=hp 2 (of_decide_eq_true ZK);have q3:v3=.slice (some ⟨gm,0,none⟩) H.blocks.length H.blocks.length:=hp 3 (of_decide_eq_true ZK);have q4:v4=.int .i64 (c:Int):=hp 4 (of_decide_eq_true ZK);have q5:v5=.pointer (some ⟨gm,c,none⟩):=hp 5 (of_decide_eq_true ZK);have q6:v6=.int .i64 (numT H L c:Int):=hp 6 (of_decide_eq_true ZK);have q7:v7=.pointer (some ⟨gf,m,none⟩):=hp 7 (of_decide_eq_true ZK);obtain rfl:=q0;obtain rfl:=q1;obtain rfl:=q2;obtain rfl:=q3;obtain rfl:=q4;obtain rfl:=q5;obtain rfl:=q6;obtain rfl:=q7;clear hp;simp only[putsL,Act.put,La,Lz,Lc];simp only[List.length_cons,List.length_nil,List.drop_succ_cons,List.drop_zero,Nat.zero_add,Nat.reduceAdd];have hX1:=HX.out.below hb1 HX.out.lt;have hB1:=HBX.out.below hb1 HBX.out.lt;have hP1:=prow_below HPP.out hb1;have hI1:=irow_below HII.out hb1;have hK1:=kx_below HKK.out hb1;have ho1:=own_below HOWN.out hb1;have hg1:NT [3] w1 gf:=HGF.out.same (hb1.block gf gfl);have cf1:=(hb1.cell (p:=⟨gf,m,none⟩) gfl).trans cf;have ff1:=ho1.frozenAt m;have gl1:=(ho1.lt _ rfl).2;have HX1:=Lh hX1;have HB1:=Lh hB1;have HP1:=Lh hP1;have HI1:=Lh hI1;have HK1:=Lh hK1;have HG1:=Lh hg1;clear hX1 hB1 hP1 hI1 hK1 ho1 hg1 hb1 cf ff cx xl cn gml gfl;go_wp2_with fail;go_roundw
                       case rel=>
                        refine⟨m+1,ZN,hml,HX1.out.other (p:=⟨gf,m,none⟩) hgX _,HB1.out.other (p:=⟨gf,m,none⟩) hgB _,?_,irow_from HI1.out HG1.out hDg,HK1.out.setCell (p:=⟨gf,m,none⟩) (fun h=>h.2 e hem hvg) _⟩;exact from_step HP1.out HAP.out (fun b hb=>hb.2 p hpm) HKE.out HVF.out hml (by rw[HCC.out];unfold vI;rw[Int.toNat_natCast])
                       case measure=>simp[intOf];omega
                    · as_aux_lemma=>
                      obtain rfl:m=e.1.froms.length:=by omega
                      rw[HSE.out]at hP;have HBX:=Lh hbx;have HPP:=Lh hP;have HII:=Lh hI;have HKK:=Lh hKx;clear hX hbx hP hI hKx hm hml;go_wp2;go_roundw
                      case rel=>exact⟨k+1,ZN,hkl,HBX.out,HPP.out,HII.out,HKK.out⟩
                      case measure=>simp[intOf];omega
                 · as_aux_lemma=>
                   obtain rfl:k=p.es.length:=by omega
                   rw[mixL_end]at hP
                   have hPd:=CPhT.done (D':=Dn w0 ps (i+1)) hP (fun b _ h=>h.dn) (fun e he b _ hb=>by
                    obtain⟨e0,h1,rfl⟩:=List.mem_map.1 he
                    exact from_dn HOK.out hpi h1 hb)
                   rw[phis_tE,HOK.out.me p hpm,HPB.out]at hPd;have hId:RRow wr wq.heap.size 67 4 (CInst wr (Dn w0 ps (i+1))) (.slice AM M.length cM) M:=hI.imp fun _ _ h=>h.turn (Tr.mono fun _ _ h=>h.dn)
                   have HC0:=Lh (show BoxAt wr wi.heap.size #[.string (H.blk i).name,.slice AP p.es.length cP,.slice AM M.length cM,.int .i64 T.kind,.int .i64 T.var,.int .i64 (tmK (vI (numT H L)) T 0).t0,.int .i64 (tmK (vI (numT H L)) T 0).t1] 62 by rw[tmK_zero];exact hbx);obtain⟨wj,rfl⟩:∃wj:World,wj=wr:=⟨_,rfl⟩;have hRj:=HR.out.below hTw.bel;have t5:=hbx.cell 5;have t6:=hbx.cell 6;have tl:=hbx.lt;simp at t5 t6;have HPD:=Lh hPd;have HID:=Lh hId;have HKJ:=Lh hKx;have HRJ:=Lh hRj;have hgmi:gm≠wi.heap.size:=fun e=>by have:=(HRR.out.bm.lt);omega
                   clear hP hPd hI hId hbx hKx hTw hRj hk hkl;go_wp2_with fail;clear t5 t6
                   go_loopw[156] (fun s wr=>∃k:Nat,s=.int .i64 k∧k≤2∧BoxAt wr wi.heap.size #[.string (H.blk i).name,.slice AP p.es.length cP,.slice AM M.length cM,.int .i64 T.kind,.int .i64 T.var,.int .i64 (tmK (vI (numT H L)) T k).t0,.int .i64 (tmK (vI (numT H L)) T k).t1] 62∧Kp (fun b=>b≠wi.heap.size) wj wr) (fun s _=>2-(intOf s).toNat)
                   case atStart=>exact⟨0,rfl,ZD,HC0.out,Kp.refl⟩
                   case round=>as_aux_lemma=>
                    obtain⟨k,rfl,hk,hC,hK⟩:=hrel;have hCl:=hC.lt;have c3:=hC.cell 3;have f5:=hC.frozen 5;have f6:=hC.frozen 6;have c5x:=hC.cell 5;have c6x:=hC.cell 6;simp at c3 c5x c6x;have hbm:=HRJ.out.bm.kp hK hgmi;have hix0:∀(x y:Int) (w:World),(Instr.index 58 (.agg #[.int .i64 x,.int .i64 y]) (.int .i64 0)).run Tryz.prog w=.ok (.int .i64 x) w:=fun _ _ _=>by kernel_rfl
                    have hix1:∀(x y:Int) (w:World),(Instr.index 58 (.agg #[.int .i64 x,.int .i64 y]) (.int .i64 1)).run Tryz.prog w=.ok (.int .i64 y) w:=fun _ _ _=>by kernel_rfl
                    have gml:=hbm.lt;have HC:=Lh hC;have HK:=Lh hK;clear hC hK
                    by_cases hk2:k<2
                    · as_aux_lemma=>
                      have hkd:(T.kind=0∨T.kind=1)∨(T.kind≠0∧T.kind≠1):=by omega
                      rcases hkd with hkd|hkd
                      · as_aux_lemma=>
                        obtain⟨x,hx,hxl⟩:=HRG.out.1 hkd;rcases(show k=0∨k=1 from ZO)with rfl|rfl
                        · as_aux_lemma=>
                          have HT1:=Lh (show(tmK (vI (numT H L)) T 1).t0=(numT H L x:Int)∧(tmK (vI (numT H L)) T 1).t1=(tmK (vI (numT H L)) T 0).t1 by simp[tmK,hkd,hx,vI]);have cn:=hbm.at_ (by rw[nmM_len];exact hxl:x<(nmM H L H.blocks.length).length);rw[nmM_at hxl]at cn;have hxi:(x:Int)<(H.blocks.length:Int):=by omega
                          rcases hkd with h0|h0
                          all_goals
                           rw[h0]at c3;have HH:=Lh h0;rw[hx];clear h0 hx hxl c6x hbm;go_wp2;go_roundw
                           case rel=>exact⟨1,ZN,ZD,by rw[HT1.out.1,HT1.out.2];simpa using HC.out.set 5 (.int .i64 (numT H L x:Int)),HK.out.setCell (p:=⟨wi.heap.size,5,none⟩) (fun h=>h rfl) _⟩
                           case measure=>simp[intOf]
                        · as_aux_lemma=>
                          rcases hkd with h0|h0
                          · as_aux_lemma=>
                            have HT1:=Lh (show(tmK (vI (numT H L)) T 2).t0=(tmK (vI (numT H L)) T 1).t0∧(tmK (vI (numT H L)) T 2).t1=(tmK (vI (numT H L)) T 1).t1 by simp[tmK,h0]);rw[h0]at c3;have HH:=Lh h0;clear h0 hx hxl c6x c5x hbm;go_wp2;go_roundw
                            case rel=>exact⟨2,ZN,ZD,by rw[HT1.out.1,HT1.out.2];exact HC.out,HK.out⟩
                            case measure=>simp[intOf]
                          · as_aux_lemma=>
                            obtain⟨z,hz,hzl⟩:=HRG.out.2 h0;have HT1:=Lh (show(tmK (vI (numT H L)) T 2).t0=(tmK (vI (numT H L)) T 1).t0∧(tmK (vI (numT H L)) T 2).t1=(numT H L z:Int) by simp[tmK,h0,hz,vI]);have cn:=hbm.at_ (by rw[nmM_len];exact hzl:z<(nmM H L H.blocks.length).length);rw[nmM_at hzl]at cn;have hzi:(z:Int)<(H.blocks.length:Int):=by omega
                            rw[h0]at c3;have HH:=Lh h0;rw[hz];clear h0 hx hxl hz hzl c5x hbm;go_wp2;go_roundw
                            case rel=>exact⟨2,ZN,ZD,by rw[HT1.out.1,HT1.out.2];simpa using HC.out.set 6 (.int .i64 (numT H L z:Int)),HK.out.setCell (p:=⟨wi.heap.size,6,none⟩) (fun h=>h rfl) _⟩
                            case measure=>simp[intOf]
                      · as_aux_lemma=>
                        have h1:(T.kind==1)=false:=by simp[hkd.2]
                        have h0:(T.kind==0)=false:=by simp[hkd.1]
                        have HT1:=Lh (show(tmK (vI (numT H L)) T (k+1)).t0=(tmK (vI (numT H L)) T k).t0∧(tmK (vI (numT H L)) T (k+1)).t1=(tmK (vI (numT H L)) T k).t1 by simp[tmK,hkd.1,hkd.2]);clear hkd c5x c6x hbm;rcases(show k=0∨k=1 from ZO)with rfl|rfl
                        · as_aux_lemma=>
                          go_wp2;go_roundw
                          case rel=>exact⟨0+1,ZN,ZD,by rw[HT1.out.1,HT1.out.2];exact HC.out,HK.out⟩
                          case measure=>simp[intOf]
                        · as_aux_lemma=>
                          go_wp2;go_roundw
                          case rel=>exact⟨1+1,ZN,ZD,by rw[HT1.out.1,HT1.out.2];exact HC.out,HK.out⟩
                          case measure=>simp[intOf]
                    · as_aux_lemma=>
                      obtain rfl:k=2:=by omega
                      have hC:=HC.out;rw[tmK_two]at hC;have hK:=HK.out;have hKz:=kx_other HKJ.out hK (Nr _);have hTz:=HTD.out.kp HOK.out hpi HHD.out hKz;have hto:=KT.of_box hK HC0.out;have hDz:Tr (Dn w0 ps (i+1)) (Dn w0 ps (i+1)) wj wr:=⟨hK.size,fun b hb hl=>⟨hK.blk b (fun e=>by have:=hb.1.lt;omega) hl,hb⟩⟩;have hPz:=HPD.out.kt hto ZS fun _ _ h=>h.turn hDz
                      have hIz:=HID.out.kt hto ZS fun _ _ h=>h.turn hDz
                      obtain⟨cellsq,hOq⟩:=hTz.hq.own;have o2:=hTz.box.cell 2;have ogl:=hTz.box.lt;simp at o2;have hql:qs.length≤64:=by
                       have h1:=congrArg List.length hTz.map;rw[List.length_map,ResT.len HRES]at h1;have h2:=cntH_le (F:=H) (i:=i);omega
                      have hwqz:wq.heap.size≤wr.heap.size:=hTz.bel.size;have hcR:wr.rangeAt wi.heap.size 0 ([.string (H.blk i).name,.slice AP p.es.length cP,.slice AM M.length cM,.int .i64 T.kind,.int .i64 T.var,.int .i64 (mterm (vI (numT H L)) T).t0,.int .i64 (mterm (vI (numT H L)) T).t1]:List Value):=by
                       have:=World.rangeAt_of_block (w:=wr) (b:=wi.heap.size) hC 0 7;simpa using this
                      have huB:=Tryz.underlying62;have hinB:(Tryz.prog.info? 62).map (·.size)=some ([.string (H.blk i).name,.slice AP p.es.length cP,.slice AM M.length cM,.int .i64 T.kind,.int .i64 T.var,.int .i64 (mterm (vI (numT H L)) T).t0,.int .i64 (mterm (vI (numT H L)) T).t1]:List Value).length:=by kernel_rfl
                      have HTZ:=Lh hTz;have HPZ:=Lh hPz;have HIZ:=Lh hIz;have HOQ:=Lh hOq;have hgo:=hTz.box;clear hC hK hKz hTz hto hDz hPz hIz c3 c5x c6x f5 f6 hbm gml hk hk2 HC HK
                      go_upto_region 49 with fail
                      go_wp2_with(first
                       |(refine wpList_load_mid rfl 62 _ rfl wi.heap.size 0 rfl [.string (H.blk i).name,.slice AP p.es.length cP,.slice AM M.length cM,.int .i64 T.kind,.int .i64 T.var,.int .i64 (mterm (vI (numT H L)) T).t0,.int .i64 (mterm (vI (numT H L)) T).t1] _ hcR huB rfl hinB ?_)
                       |(refine wpList_one7 rfl _ _ _ rfl Tryz.underlying24 Tryz.info62 rfl ?_)
                       |(at_builtin;refine wpList_appendF _ rfl _ _ 24 rfl wq.heap.size 62 7 96 Tryz.underlying24 Tryz.info62 rfl ZD _ qs.length cellsq rfl hOq _ ZS #[.string (H.blk i).name,.slice AP p.es.length cP,.slice AM M.length cM,.int .i64 T.kind,.int .i64 T.var,.int .i64 (mterm (vI (numT H L)) T).t0,.int .i64 (mterm (vI (numT H L)) T).t1] rfl rfl (by intro u hu;simp at hu;rcases hu with rfl|rfl|rfl|rfl|rfl|rfl|rfl<;>rfl) ZO ZD ZO ?_
                         intro v' w3 hown3 hg3 hfr3;obtain⟨Av,cv,hv3⟩:=own_form hown3;subst hv3;have hgo3:=(hgo.alloc (.cells #[.string (H.blk i).name,.slice AP p.es.length cP,.slice AM M.length cM,.int .i64 T.kind,.int .i64 T.var,.int .i64 (mterm (vI (numT H L)) T).t0,.int .i64 (mterm (vI (numT H L)) T).t1] 62)).grown hg3 (fun e=>own_box_ne hOq hgo ZD e);have t3:=hgo3.cell 2;simp at t3;have t3f:=hgo3.frozen 2
                         have t3l:=hgo3.lt))
                      go_roundw
                      case rel=>
                       have hmk:=mterm_kind (vI (numT H L)) T
                       have hsn:=HTZ.out.snoc (B:=tidyBlk H (numT H L) i M T) (vx:=.slice AP p.es.length cP) (vy:=.slice AM M.length cM) (cells:=[.string (H.blk i).name,.slice AP p.es.length cP,.slice AM M.length cM,.int .i64 T.kind,.int .i64 T.var,.int .i64 (mterm (vI (numT H L)) T).t0,.int .i64 (mterm (vI (numT H L)) T).t1]) HOK.out HOQ.out ⟨by simp[tidyBlk,hmk.1,hmk.2],hnz⟩ hown3 hg3 HPZ.out HIZ.out (fun j x hj hx=>vi_apart HOK.out hpi HHD.out hwi HOWN hj hx) (fun j x hj hx=>by
                        have h1:=(bef_ne HOK.out.pw hpi hx ZO).1;rw[HVP.out]at h1
                        exact h1) hfr3 hgO
                       exact⟨i+1,_,_,LB++[tidyBlk H (numT H L) i M T],ZN,hlt,ResT.snoc HRES HHD.out HCH.out,hsn⟩
                      case measure=>simp[intOf];omega
              · as_aux_lemma=>
                obtain⟨b,hb,hbl⟩:=typed_t0 HPT.out hj;have hfb:fol H j b=true:=by
                 unfold foT at hfo;rw[hb,Int.toNat_natCast]at hfo;exact hfo
                have HNX:=Lh (show nxt H j=(b:Int) by unfold nxt;rw[hfo,if_pos rfl,hb]);have HP2:=Lh (Pth.more HPTH hfb);have hbh:isHd H b=false:=by
                 cases e:isHd H b
                 · rfl
                 · rw[hd_iff.1 e]at hfb
                   cases hfb
                have hrb:=HRK.out _ _ hfb;have hrn:=ordR_le HPT.out b;have hML:=Pth.len HRK.out (typed_ins HPT.out) HPTH;have hMi:=typed_ins HPT.out b;have hML2:M.length≤66560:=Nat.le_trans hML (Nat.mul_le_mul_right 1024 (show ordR H j+1≤65 from ZO));have hbp:b<ps.length:=by rw[HPL.out];exact hbl
                obtain⟨gb',cap',cs',hvs',-,-,-,-,-,hcells',hcb'⟩:=hTw.hp.cells (i:=b) (by rw[List.length_map];exact hbp);simp only[Value.slice.injEq,Option.some.injEq,Addr.mk.injEq,and_true]at hvs';obtain⟨rfl,-,-⟩:=hvs';have hpib:ps[b]?=some ps[b]:=List.getElem?_eq_getElem hbp;have hpbb:ps[b].b=H.blk b:=by
                 have h1:=congrArg (fun l:List PBlock=>l[b]?) HPS.out;simp only[List.getElem?_map,hpib,Option.map_some]at h1;rw[PFunc.blk_get hbl]at h1;exact Option.some.inj h1
                rw[List.getElem_map]at hcb';generalize ps[b]=x at *;have hRx:=hTw.el b x (.inl hbh) hpib;obtain⟨AX,cX,hvx⟩:=hRx.form;rw[hpbb]at hRx hvx;obtain⟨hce',-⟩:=hcb';subst hce';have k2:=hcells' 2 _ rfl;have k3:=hcells' 3 _ rfl;have k4:=hcells' 4 _ rfl;have k5:=hcells' 5 _ rfl;have k6:=hcells' 6 _ rfl;simp only[XBlk.old,hpbb,hvx]at k2 k3 k4 k5 k6;rw[hvx]at hRx;have hDx:=hRx.done (D:=fun _=>True) ZO (fun _ _ _=>trivial);have hgb:gb<wr.heap.size:=by
                 obtain⟨cells,ho⟩:=hTw.hp.own;exact(own_lt ho rfl).2
                have xC:=hbx.cell 2;have xCl:=hbx.lt;simp at xC;rw[HNX.out];have HTW:=Lh hTw;have HBX:=Lh hbx;have HII:=Lh hI;have HKP:=Lh hKp;have HDX:=Lh hDx;have hbps:(b:Int)<(ps.length:Int):=by omega
                have hbn1:((b:Int) !=-1)=true:=by simp
                have HPIB:=Lh hpib;have HPBB:=Lh hpbb;have HMS:=Lh (nxt_cases HPT.out HRK.out hbl);clear hb hfo hfb hbh hML hTw hbx hI hKp hRx hDx hcells' hpib hpbb hvx hRr
                go_upto_region 32 with fail
                refine wp_region_monoL [113,114,115,116,117,118,119] (fun i w' v'=>(([fun _ v'=>v'=.pointer (some ⟨wi.heap.size,2,none⟩),fun _ v'=>v'=.slice AM M.length cM,fun _ v'=>v'=.slice (some ⟨gb,0,none⟩) ps.length cb,fun _ v'=>v'=.int .i64 (b:Int),fun _ v'=>v'=.pointer (some ⟨gb,b*7,none⟩),fun _ v'=>v'=.pointer (some ⟨gb,b*7+2,none⟩),fun _ v'=>v'=.slice AX (H.blk b).insts.length cX]:List (World→Value→Prop)).getD i (fun _ _=>True)) w' v') ZK ZK ZK ZD ZK ZD ?mono ?step ?last
                case mono=>
                 intro i w1 w2 v hi hb h
                 match i,hi,h with
                 |0,_,h=>exact h
                 |1,_,h=>exact h
                 |2,_,h=>exact h
                 |3,_,h=>exact h
                 |4,_,h=>exact h
                 |5,_,h=>exact h
                 |6,_,h=>exact h
                 |k+7,hi,_=>exact absurd hi (Nat.not_lt_of_le (Nat.le_add_left _ _))
                case step=>
                 intro i o vs w1 ho hi hl hb hp K hK;have hl0:vs.length=7:=hl;clear hl;obtain⟨v0,r0,rfl,hl1⟩:=len_cons (n:=6) hl0;obtain⟨v1,r1,rfl,hl2⟩:=len_cons (n:=5) hl1;obtain⟨v2,r2,rfl,hl3⟩:=len_cons (n:=4) hl2;obtain⟨v3,r3,rfl,hl4⟩:=len_cons (n:=3) hl3;obtain⟨v4,r4,rfl,hl5⟩:=len_cons (n:=2) hl4;obtain⟨v5,r5,rfl,hl6⟩:=len_cons (n:=1) hl5;obtain⟨v6,r6,rfl,hl7⟩:=len_cons (n:=0) hl6;obtain rfl:=List.eq_nil_of_length_eq_zero hl7;clear hl0 hl1 hl2 hl3 hl4 hl5 hl6 hl7
                 match i,ho,hi,hp with
                 |0,ho,hi,hp=>
                  obtain rfl:=Option.some.inj ho;clear hi;clear hp;simp only[putsL,Act.put,La,Lz,Lc];go_simp
                  try go_wp2
                  refine hK.out (.pointer (some ⟨wi.heap.size,2,none⟩)) _ _ ?_ ZE rfl;simp only[putsL,Act.put,La,Lz,Lc]
                 |1,ho,hi,hp=>
                  obtain rfl:=Option.some.inj ho;clear hi;have q0:v0=.pointer (some ⟨wi.heap.size,2,none⟩):=hp 0 ZK;obtain rfl:=q0;clear hp;simp only[putsL,Act.put,La,Lz,Lc];have z9:=(hb.cell (p:=⟨wi.heap.size,2,none⟩) xCl).trans xC;have zl:wi.heap.size<w1.heap.size:=Nt xCl hb.size;go_simp
                  try go_wp2
                  refine hK.out (.slice AM M.length cM) _ _ ?_ ZE rfl;simp only[putsL,Act.put,La,Lz,Lc]
                 |2,ho,hi,hp=>
                  obtain rfl:=Option.some.inj ho;clear hi;clear hp;simp only[putsL,Act.put,La,Lz,Lc];go_simp
                  try go_wp2
                  refine hK.out (.slice (some ⟨gb,0,none⟩) ps.length cb) _ _ ?_ ZE rfl;simp only[putsL,Act.put,La,Lz,Lc]
                 |3,ho,hi,hp=>
                  obtain rfl:=Option.some.inj ho;clear hi;clear hp;simp only[putsL,Act.put,La,Lz,Lc];go_simp
                  try go_wp2
                  refine hK.out (.int .i64 (b:Int)) _ _ ?_ ZE rfl;simp only[putsL,Act.put,La,Lz,Lc]
                 |4,ho,hi,hp=>
                  obtain rfl:=Option.some.inj ho;clear hi;have q2:v2=.slice (some ⟨gb,0,none⟩) ps.length cb:=hp 2 ZK;have q3:v3=.int .i64 (b:Int):=hp 3 ZK;obtain rfl:=q2;obtain rfl:=q3;clear hp;simp only[putsL,Act.put,La,Lz,Lc];go_simp
                  try go_wp2
                  refine hK.out (.pointer (some ⟨gb,b*7,none⟩)) _ _ ?_ ZE rfl;simp only[putsL,Act.put,La,Lz,Lc]
                 |5,ho,hi,hp=>
                  obtain rfl:=Option.some.inj ho;clear hi;have q4:v4=.pointer (some ⟨gb,b*7,none⟩):=hp 4 ZK;obtain rfl:=q4;clear hp;simp only[putsL,Act.put,La,Lz,Lc];go_simp
                  try go_wp2
                  refine hK.out (.pointer (some ⟨gb,b*7+2,none⟩)) _ _ ?_ ZE rfl;simp only[putsL,Act.put,La,Lz,Lc]
                 |6,ho,hi,hp=>
                  obtain rfl:=Option.some.inj ho;clear hi;have q5:v5=.pointer (some ⟨gb,b*7+2,none⟩):=hp 5 ZK;obtain rfl:=q5;clear hp;simp only[putsL,Act.put,La,Lz,Lc];have z9:=(hb.cell (p:=⟨gb,b*7+2,none⟩) hgb).trans k2;have zl:gb<w1.heap.size:=Nt hgb hb.size;go_simp
                  try go_wp2
                  refine hK.out (.slice AX (H.blk b).insts.length cX) _ _ ?_ ZE rfl;simp only[putsL,Act.put,La,Lz,Lc]
                 |k+7,_,hi,_=>exact absurd hi (Nat.not_lt_of_le (Nat.le_add_left _ _))
                case last=>
                 intro vs w1 hl hb1 hp;have hl0:vs.length=7:=hl;clear hl;obtain⟨v0,r0,rfl,hl1⟩:=len_cons (n:=6) hl0;obtain⟨v1,r1,rfl,hl2⟩:=len_cons (n:=5) hl1;obtain⟨v2,r2,rfl,hl3⟩:=len_cons (n:=4) hl2;obtain⟨v3,r3,rfl,hl4⟩:=len_cons (n:=3) hl3;obtain⟨v4,r4,rfl,hl5⟩:=len_cons (n:=2) hl4;obtain⟨v5,r5,rfl,hl6⟩:=len_cons (n:=1) hl5;obtain⟨v6,r6,rfl,hl7⟩:=len_cons (n:=0) hl6;obtain rfl:=List.eq_nil_of_length_eq_zero hl7;clear hl0 hl1 hl2 hl3 hl4 hl5 hl6 hl7;have q0:v0=.pointer (some ⟨wi.heap.size,2,none⟩):=hp 0 (of_decide_eq_true ZK);have q1:v1=.slice AM M.length cM:=hp 1 (of_decide_eq_true ZK);have q2:v2=.slice (some ⟨gb,0,none⟩) ps.length cb:=hp 2 (of_decide_eq_true ZK);have q3:v3=.int .i64 (b:Int):=hp 3 (of_decide_eq_true ZK);have q4:v4=.pointer (some ⟨gb,b*7,none⟩):=hp 4 (of_decide_eq_true ZK);have q5:v5=.pointer (some ⟨gb,b*7+2,none⟩):=hp 5 (of_decide_eq_true ZK);have q6:v6=.slice AX (H.blk b).insts.length cX:=hp 6 (of_decide_eq_true ZK);obtain rfl:=q0;obtain rfl:=q1;obtain rfl:=q2;obtain rfl:=q3;obtain rfl:=q4;obtain rfl:=q5;obtain rfl:=q6;clear hp;simp only[putsL,Act.put,La,Lz,Lc];simp only[List.length_cons,List.length_nil,List.drop_succ_cons,List.drop_zero,Nat.zero_add,Nat.reduceAdd];have hKw:=kx_below HKP.out hb1;have hI1:RRow w1 wq.heap.size 67 4 (CInst w1 (D0 w0 ps)) (.slice AM M.length cM) M:=HII.out.move hb1 fun _ _ h=>h.turn ⟨hb1.size,fun c hc hl=>⟨hb1.block c hl,hc⟩⟩
                 have hD1:DRow w1 (fun _=>True) 4 (CInst w1 (D0 w0 ps)) (.slice AX (H.blk b).insts.length cX) (H.blk b).insts:=DRow.turn HDX.out ⟨hb1.size,fun c _ hl=>⟨hb1.block c hl,trivial⟩⟩ fun _ _ h=>h.turn ⟨hb1.size,fun c hc hl=>⟨hb1.block c hl,hc⟩⟩
                 have hwq1:wq.heap.size≤w1.heap.size:=by have:=hb1.size;omega
                 obtain⟨A7',c7',w8,hr8,hR8,hg8,ho8⟩:=run_appendD (P:=Tryz.prog) (w:=w1) (base:=wq.heap.size) (t:=56) (ty:=56) 4 48 Tryz.underlying56 Tryz.info67 rfl ZD ZD hI1 hD1 (fun _ _ h=>one_instD h) ZO hwq1;have hK8:=ky_grown hKw hg8 (fun k hk=>(HOWN k hk).imp id ZO);have hs8:=hg8.size;have hR8':RRow w8 wq.heap.size 67 4 (CInst w8 (D0 w0 ps)) (.slice A7' (M.length+(H.blk b).insts.length) c7') (M++(H.blk b).insts):=hR8.imp fun _ _ h=>h.turn (d0_tr HOK.out hpm hwi hKw.kx hK8.kx hs8)
                 have hown8:Hid (∀k,(Value.slice A7' (M.length+(H.blk b).insts.length) c7').ownBlock=some k→p.vi.ownBlock=some k∨wi.heap.size<k):=fun k hk=>by
                  rcases ho8 with e|e
                  · exact HOWN k (by rw[← e];exact hk)
                  · rw[e]at hk
                    cases hk;exact .inr (by have:=hb1.size;omega)
                 obtain⟨cellsI,hoI⟩:=hI1.own;have hB8:=(HBX.out.below hb1 xCl).grown hg8 (own_box_ne hoI (HBX.out.below hb1 xCl) ZD);have y2:=hB8.cell 2;have yf:=hB8.frozen 2;have yl:=hB8.lt;simp at y2;have HB8:=Lh (hB8.set 2 (.slice A7' (M.length+(H.blk b).insts.length) c7'));have HB88:=Lh hB8;have HR8:=Lh hR8';have HK8:=Lh hK8;have HO8:=Lh hown8;clear hKw hI1 hD1 hR8 hg8 ho8 hK8 hR8' hown8 hoI hB8 hs8
                 go_upto_region 33 with(at_builtin;go_loud (refine wpList_append_runD rfl _ _ 56 rfl rfl rfl hr8 ?_))
                 obtain⟨wZ,hwZ⟩:∃wZ:World,wZ=w8.setCell ⟨wi.heap.size,2,none⟩ (.slice A7' (M.length+(H.blk b).insts.length) c7'):=⟨_,rfl⟩
                 go_loud (rw[← hwZ])
                 have hD0:∀c,D0 w0 ps c→c≠wi.heap.size:=fun c hc e=>by have:=hc.1.lt;omega
                 have BZ:BoxAt wZ wi.heap.size #[.string (H.blk i).name,.slice AP p.es.length cP,.slice A7' (M.length+(H.blk b).insts.length) c7',.int .i64 (H.blk j).term.kind,.int .i64 (H.blk j).term.var,.int .i64 (H.blk j).term.t0,.int .i64 (H.blk j).term.t1] 62:=by rw[hwZ];simpa using HB8.out
                 have IZ:RRow wZ wq.heap.size 67 4 (CInst wZ (D0 w0 ps)) (.slice A7' (M.length+(H.blk b).insts.length) c7') (M++(H.blk b).insts):=by rw[hwZ];exact irow_set HR8.out HB88.out ZD hD0
                 have KZ:Kp (Ky p) wi wZ:=by rw[hwZ];exact kx_set HK8.out (Nr _)
                 have TZ:=HTD.out.kp HOK.out hpi HHD.out KZ.kx;have RZ:=HR.out.below TZ.bel;obtain⟨hgz,-,-,z3,z4,z5,z6⟩:=TZ.blk HPIB.out;rw[HPBB.out]at z3 z4 z5 z6;have c3:=BZ.cell 3;have c4:=BZ.cell 4;have c5x:=BZ.cell 5;have c6x:=BZ.cell 6;have f3:=BZ.frozen 3;have f4:=BZ.frozen 4;have f5:=BZ.frozen 5;have f6:=BZ.frozen 6;have bl:=BZ.lt;have r0:=RZ.br.cell 0;have rl:=RZ.br.lt;have nl:=RZ.bn.lt;have cn:=RZ.bn.at_ (by rw[nxL_len];exact hbl:b<(nxL H H.blocks.length).length);rw[nx_at hbl]at cn;have hne1:wi.heap.size≠gr:=fun e=>by have:=(HRR.out.br.lt);omega
                 have hne2:wi.heap.size≠gn:=fun e=>by have:=(HRR.out.bn.lt);omega
                 simp at c3 c4 c5x c6x r0;have HBZ:=Lh BZ;have HIZ:=Lh IZ;have HKZ:=Lh KZ;clear hwZ BZ IZ KZ TZ RZ hr8 y2 yf yl HB8 HB88 HR8 HK8 k2 k3 k4 k5 k6 hb1 xC xCl;go_wp2;go_roundw
                 case rel=>
                  have h3:=HBZ.out.set 3 (.int .i64 (H.blk b).term.kind);have h4:=h3.set 4 (.int .i64 (H.blk b).term.var);have h5:=h4.set 5 (.int .i64 (H.blk b).term.t0);have h6:=h5.set 6 (.int .i64 (H.blk b).term.t1);refine⟨b,.slice A7' (M.length+(H.blk b).insts.length) c7',M++(H.blk b).insts,rfl,hbl,HP2.out,by simpa using h6,?_,HO8.out,kx_set (kx_set (kx_set (kx_set HKZ.out (Nr _)) (Nr _)) (Nr _)) (Nr _)⟩;exact irow_set (irow_set (irow_set (irow_set HIZ.out HBZ.out ZD hD0) h3 ZD hD0) h4 ZD hD0) h5 ZD hD0
                 case measure=>
                  rcases HMS.out with e|⟨c,e,hc⟩
                  · have h3:¬((b:Int)<0):=by omega
                    have h4:(-1:Int)<0:=by decide
                    rw[e];simp only[intOf,h3,h4,if_false,if_true,Int.toNat_natCast];clear HTD HRR HBZ HIZ HKZ;omega
                  · have h1:=ordR_le HPT.out c
                    have h2:¬((c:Int)<0):=by omega
                    have h3:¬((b:Int)<0):=by omega
                    rw[e];simp only[intOf,h2,h3,if_false,Int.toNat_natCast];clear HTD HRR HBZ HIZ HKZ;omega
           · as_aux_lemma=>
             rw[e1]at ci
             have HNO:=Lh (show isHd H i=false by
              cases e:isHd H i
              · rfl
              · exact absurd e2 (hd_no e))
             have hy:((y:Int) !=-1)=true:=by simp
             clear e1 e2 hpi hpb hnz hvp hvi hpm;go_wp2;go_roundw
             case rel=>exact⟨i+1,_,qs,LB,ZN,hlt,ResT.skip HRES HNO.out,(HTD.out.below (bel_alloc _ _)).skip⟩
             case measure=>simp[intOf];omega
         · as_aux_lemma=>
           obtain rfl:i=ps.length:=by omega
           have ht:=HTA.out.below (HR.out.hb.trans (hTd.bel.mono HR.out.hb.size)) HTA.out.lt;have hBw:=HB.out.trans (hTd.bel.mono HB.out.size);have o0:=hTd.box.cell 0;have o1:=hTd.box.cell 1;have o2:=hTd.box.cell 2;have ol:=hTd.box.lt;have e0:=ht.cell 0;have e1:=ht.cell 1;have e2:=ht.cell 2;have f0:=ht.frozen 0;have f1:=ht.frozen 1;have f2:=ht.frozen 2;have el:=ht.lt;simp at o0 o1 o2 e0 e1 e2;have HTD:=Lh hTd;have HTB:=Lh ht;have HBWW:=Lh hBw;clear hTd hRr ht hBw hi hlt;go_wp2;have hz:=HTB.out.set3 (a:=.slice A8 H.vars.length c8) (b:=.slice A9 H.params.length c9) (c:=.slice Aq qs.length cq);have z0:=hz.cell 0;have z1:=hz.cell 1;have z2:=hz.cell 2;simp only[List.getElem?_toArray,List.getElem?_cons_zero,List.getElem?_cons_succ]at z0 z1 z2;have hK:KT [3,64,67,62,78] wr (((wr.setCell ⟨w.heap.size+1,0,none⟩ (.slice A8 H.vars.length c8)).setCell ⟨w.heap.size+1,1,none⟩ (.slice A9 H.params.length c9)).setCell ⟨w.heap.size+1,2,none⟩ (.slice Aq qs.length cq)):=
            ((KT.refl.setCell HTB.out ZS _).setCell (HTB.out.set 0 _) ZS _).setCell ((HTB.out.set 0 _).set 1 _) ZS _
           have hBz:=((HBWW.out.setCell (p:=⟨w.heap.size+1,0,none⟩) ZS (.slice A8 H.vars.length c8)).setCell (p:=⟨w.heap.size+1,1,none⟩) ZS (.slice A9 H.params.length c9)).setCell (p:=⟨w.heap.size+1,2,none⟩) ZS (.slice Aq qs.length cq)
           have hD:Tr (Dn w0 ps ps.length) (Dn w0 ps ps.length) wr (((wr.setCell ⟨w.heap.size+1,0,none⟩ (.slice A8 H.vars.length c8)).setCell ⟨w.heap.size+1,1,none⟩ (.slice A9 H.params.length c9)).setCell ⟨w.heap.size+1,2,none⟩ (.slice Aq qs.length cq)):=⟨hK.size,fun b hb hl=>⟨heap_set3 (by
            rintro rfl;have h1:=HTA.out.below (HR.out.hb.trans (hw0b.out.mono HR.out.hb.size)) HTA.out.lt
            exact absurd (NT.two hb.1 (show NT [26] w0 (w.heap.size+1)from⟨_,_,h1,ZS⟩)) ZD),hb⟩⟩
           have hres:ResT H L H.blocks.length LB:=by rw[← HPL.out];exact HRES
           have hG:=hres.fin HS.out;have hq:=HTD.out.hq.kt hK ZS (C':=CBD _ (Dn w0 ps ps.length) wq.heap.size) fun _ _ h=>⟨h.1,h.2.1.kt hK ZS fun _ _ h=>h.turn hD,h.2.2.kt hK ZS fun _ _ h=>h.turn hD⟩
           have hfn:=fnD_of (F:=⟨H.vars,H.params,LB⟩) (HTD.out.hV.kt hK ZS fun _ _ h=>h) (own_kt HTD.out.hI hK ZS) hq HTD.out.map (isT_bnd HBP.out HPT.out HRK.out hG);exact bodyPost_ret (v:=.tuple #[.agg #[.slice A8 H.vars.length c8,.slice A9 H.params.length c9,.slice Aq qs.length cq],.int .i64 0]) (by simp[results,Tryz.results15,go_sem,z0,z1,z2]) rfl ⟨⟨_,_,rfl,hfn,hG⟩,hBz⟩
end Go.Proofs.YthhjlbflpjhahaaGreatDoor
