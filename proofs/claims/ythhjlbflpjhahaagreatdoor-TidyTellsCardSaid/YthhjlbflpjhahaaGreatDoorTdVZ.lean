/- The walk of the document's put. -/
import Derived.Test.YthhjlbflpjhahaaGreatDoorTdMZ
import Derived.Test.YthhjlbflpjhahaaGreatDoorTdAZ
import Derived.Test.YthhjlbflpjhahaaGreatDoorMemZ
import Derived.Test.YthhjlbflpjhahaaGreatDoorTdIZ
import Derived.Test.YthhjlbflpjhahaaGreatDoorRefPrZ
namespace Go.Proofs.YthhjlbflpjhahaaGreatDoor
open Go.RowKit
set_option maxRecDepth 100000
set_option maxHeartbeats 16000000 in
theorem refPut_calls{W w:World}{fv:Value}{F:PFunc}{a b:Nat}(hF:FnT W fv F)(hW:Below W.heap.size W w)(hf:fol F a b=true)(hg:InRg F)(hN:Bnd F)(hNG:Bnd (putF F a b)) :
 Calls Tryz.prog 45 #[fv,.int .i64 (a:Int),.int .i64 (b:Int)] w fun e w'=>(∃v,e=.returned v∧FnT w' v (putF F a b))∧Below w.heap.size w w':=by
 obtain⟨A0,c0,A1,c1,A2,c2,rfl,l0,l1,l2,-,-,-,r0,r1,r2⟩:=id hF.fn.open_;unfold Len at *;have hWs:=hW.size;obtain⟨ha,hb,-,-,hab,-,-⟩:=fol_parts hf;have nb:=hN.blocks;have HG:=Lh hg;have HF:=Lh hF;have HN:=Lh hN;have HNG:=Lh hNG;have HTA:=Lh (tn_a hab);obtain⟨wA,hwA⟩:∃wA:World,wA=((w.alloc (.cells #[.slice A0 F.vars.length c0,.slice A1 F.params.length c1,.slice A2 F.blocks.length c2] 26)).alloc (.cells #[.slice none 0 0,.slice none 0 0,.slice none 0 0] 26)).alloc (.cells #[.slice A0 F.vars.length c0,.slice A1 F.params.length c1,.slice none 0 0] 26):=⟨_,rfl⟩;have hsA:wA.heap.size=w.heap.size+3:=by rw[hwA];simp
 have hbA:Below w.heap.size w wA:=by rw[hwA];exact BL
 have x0:BoxAt wA w.heap.size #[.slice A0 F.vars.length c0,.slice A1 F.params.length c1,.slice A2 F.blocks.length c2] 26:=by rw[hwA];exact((BoxAt.new _ _ _).alloc _).alloc _
 have x1:BoxAt wA (w.heap.size+1) #[.slice none 0 0,.slice none 0 0,.slice none 0 0] 26:=by
  rw[hwA];have:=(BoxAt.new (w.alloc (.cells #[.slice A0 F.vars.length c0,.slice A1 F.params.length c1,.slice A2 F.blocks.length c2] 26)) #[.slice none 0 0,.slice none 0 0,.slice none 0 0] 26).alloc (.cells #[.slice A0 F.vars.length c0,.slice A1 F.params.length c1,.slice none 0 0] 26);simpa using this
 have x2:BoxAt wA (w.heap.size+2) #[.slice A0 F.vars.length c0,.slice A1 F.params.length c1,.slice none 0 0] 26:=by
  rw[hwA];have:=BoxAt.new ((w.alloc (.cells #[.slice A0 F.vars.length c0,.slice A1 F.params.length c1,.slice A2 F.blocks.length c2] 26)).alloc (.cells #[.slice none 0 0,.slice none 0 0,.slice none 0 0] 26)) #[.slice A0 F.vars.length c0,.slice A1 F.params.length c1,.slice none 0 0] 26;simpa using this
 clear hg hF hN hNG r0 r1 hf;go_enter Tryz.func45,Tryz.ntmps45;go_wp2_with fail
 go_loud (rw[← hwA])
 clear hwA
 go_loopw[22] (fun s wr=>∃(n:Nat) (vb:Value) (ps:List (PBlock×Value×Value)),s=.int .i64 n∧n≤F.blocks.length∧Hid (ps.map Prod.fst=putK F a b n)∧BoxAt wr (w.heap.size+2) #[.slice A0 F.vars.length c0,.slice A1 F.params.length c1,vb] 26∧BoxAt wr w.heap.size #[.slice A0 F.vars.length c0,.slice A1 F.params.length c1,.slice A2 F.blocks.length c2] 26∧BoxAt wr (w.heap.size+1) #[.slice none 0 0,.slice none 0 0,.slice none 0 0] 26∧RRow wr (w.heap.size+3) 62 7 (CBM W wr (w.heap.size+3)) vb ps∧Below w.heap.size w wr) (fun s _=>F.blocks.length-(intOf s).toNat)
 case atStart=>exact⟨0,_,[],rfl,Nz _,rfl,x2,x0,x1,RRow.nil,hbA⟩
 case round=>as_aux_lemma=>
  clear x0 x1 x2 hbA hsA;obtain⟨n,vb,ps,rfl,hn,HPS,hbx,hfx,hre,hR,hB⟩:=hrel;have hWr:Below W.heap.size W wr:=hW.trans (hB.mono hWs);obtain⟨Ab,cb,rfl⟩:=hR.form;have hfl:=hfx.lt;have hpl:ps.length≤n:=by
   have h1:=congrArg List.length HPS.out;rw[List.length_map]at h1;have:=putK_len (F:=F) (a:=a) (b:=b) (n:=n);omega
  by_cases hlt:n<F.blocks.length
  · as_aux_lemma=>
    obtain⟨bb,off,A3,c3,A4,c4,rfl,hbb,hnz,hy0,hy1,hy2,hy3,hy4,hy5,hy6,l3,l4,k3,k4,r3,r4⟩:=r2.blk hWr hlt;unfold Len at l3 l4;have hpn:=HN.out.parts _ (mem_of_blk hlt);obtain⟨hd3,hd4⟩:=HF.out.blkD hWr hlt hy1 hy2;obtain⟨wi,rfl⟩:∃wi:World,wi=wr:=⟨_,rfl⟩
    by_cases hnb:n=b
    · as_aux_lemma=>
      subst hnb;have HE:=Lh (putK_no (F:=F) (a:=a) (b:=n));have HB:=Lh hB;have HBX:=Lh hbx;have HFX:=Lh hfx;have HRE:=Lh hre;have HR:=Lh hR;clear hbx hfx hre hR hB hpl;go_wp2;go_roundw
      case rel=>exact⟨n+1,_,ps,ZN,hlt,by show Hid (_=_);rw[HE.out];exact HPS,HBX.out.alloc _,HFX.out.alloc _,HRE.out.alloc _,HR.out.kt (KT.of_below (bel_alloc _ _) (ts:=[3,64,67,62])) ZS (fun _ _ h=>h.kt (KT.of_below (bel_alloc _ _) (ts:=[3,64,67])) ZS ZS ZS),HB.out.alloc HB.out.size _⟩
      case measure=>simp[intOf];omega
    · as_aux_lemma=>
      have hne:((n:Int)==(b:Int))=false:=by simp;omega
      have HE:=Lh (putK_yes (F:=F) (a:=a) hnb);have hpb:=HN.out.parts _ (mem_of_blk hb);have hpa:=HN.out.parts _ (mem_of_blk ha);have HWR:=Lh hWr;have HBX:=Lh hbx;have HFX:=Lh hfx;have HRE:=Lh hre;have HR:=Lh hR;have HB:=Lh hB;have HR4:=Lh r4;have HR3:=Lh r3;have HR2:=Lh r2;have hzi:=hB.size;have hb2i:=hbx.lt;obtain⟨BC,hBC⟩:∃BC:Array Value,BC=#[.string (F.blk n).name,.slice A3 (F.blk n).phis.length c3,.slice A4 (F.blk n).insts.length c4,.int .i64 (F.blk n).term.kind,.int .i64 (F.blk n).term.var,.int .i64 (F.blk n).term.t0,.int .i64 (F.blk n).term.t1]:=⟨_,rfl⟩;have HBCQ:=Lh hBC;obtain⟨th,hth⟩:∃th:Bool,((n:Int)==(a:Int))=th:=⟨_,rfl⟩;have HTH:=Lh hth;obtain⟨w2,hw2⟩:∃w2:World,w2=(wi.alloc (.cells #[.string (F.blk n).name,.slice A3 (F.blk n).phis.length c3,.slice A4 (F.blk n).insts.length c4,.int .i64 (F.blk n).term.kind,.int .i64 (F.blk n).term.var,.int .i64 (F.blk n).term.t0,.int .i64 (F.blk n).term.t1] 62)).alloc (.cells #[.string (F.blk n).name,.slice none 0 0,.slice none 0 0,.int .i64 (F.blk n).term.kind,.int .i64 (F.blk n).term.var,.int .i64 (F.blk n).term.t0,.int .i64 (F.blk n).term.t1] 62):=⟨_,rfl⟩;have hb2:Below wi.heap.size wi w2:=by rw[hw2];exact((Br _ _).alloc (Nr _) _).alloc ZS _
      have hs2:w2.heap.size=wi.heap.size+2:=by rw[hw2];simp
      have o2:BoxAt w2 wi.heap.size BC 62:=by rw[hw2,hBC];exact(BoxAt.new _ _ _).alloc _
      have c2x:BoxAt w2 (wi.heap.size+1) #[.string (F.blk n).name,.slice none 0 0,.slice none 0 0,.int .i64 (F.blk n).term.kind,.int .i64 (F.blk n).term.var,.int .i64 (F.blk n).term.t0,.int .i64 (F.blk n).term.t1] 62:=by
       rw[hw2];have:=BoxAt.new (wi.alloc (.cells #[.string (F.blk n).name,.slice A3 (F.blk n).phis.length c3,.slice A4 (F.blk n).insts.length c4,.int .i64 (F.blk n).term.kind,.int .i64 (F.blk n).term.var,.int .i64 (F.blk n).term.t0,.int .i64 (F.blk n).term.t1] 62)) #[.string (F.blk n).name,.slice none 0 0,.slice none 0 0,.int .i64 (F.blk n).term.kind,.int .i64 (F.blk n).term.var,.int .i64 (F.blk n).term.t0,.int .i64 (F.blk n).term.t1] 62;simpa using this
      obtain⟨A9,c9,w9,hr9,hR9,hg9,ho9⟩:=run_appendD (P:=Tryz.prog) (w:=w2) (base:=wi.heap.size+2) (t:=56) (ty:=56) 4 48 Tryz.underlying56 Tryz.info67 rfl ZD ZD (C:=CInM W) (v:=.slice none 0 0) (xs:=[]) RRow.nil (insts_done hd4 (hWr.trans (hb2.mono hWr.size))) (fun _ _ h=>one_inst h) ZX ZO;simp only[List.length_nil,Nat.zero_add,List.nil_append]at hr9 hR9 ho9;have hb9:Below w2.heap.size w2 w9:=(Br _ _).grown hg9 (Nr _) (fun k hk=>by cases hk);have c9x:=c2x.below hb9 c2x.lt;have o9:=o2.below hb9 o2.lt;have cl9:=c9x.lt;have cf9:=c9x.frozen 2;have ct9:=c9x.cell 2;simp at ct9;have ol9:=o9.lt;have C9:=Lh c9x;have O9:=Lh o9;have R9:=Lh hR9;have B9:=Lh ((hb2.trans (hb9.mono ZO):Below wi.heap.size wi w9));rw[hw2]at hr9;clear hbx hfx hre hR hB r4 r3 hBC hg9 ho9 hb9 hb2 o2 c2x c9x o9 hR9 hw2 hs2
      go_upto_if 43 with(at_builtin;go_loud (refine wpList_append_runD rfl _ _ 56 rfl rfl rfl hr9 ?_))
      go_cut[64] (fun _ wx=>∃vI:Value,BoxAt wx (wi.heap.size+1) #[.string (F.blk n).name,.slice none 0 0,vI,.int .i64 (endAt F a b n).kind,.int .i64 (endAt F a b n).var,.int .i64 (endAt F a b n).t0,.int .i64 (endAt F a b n).t1] 62∧BoxAt wx wi.heap.size BC 62∧RRow wx (wi.heap.size+2) 67 4 (CInM W) vI (putB F a b n).insts∧Below wi.heap.size wi wx)
      case first=>
       cases th
       · as_aux_lemma=>
         have hna:n≠a:=by have:=HTH.out;simp at this;omega
         have e1:endAt F a b n=(F.blk n).term:=if_neg hna;have e2:(putB F a b n).insts=(F.blk n).insts:=if_neg hna;have E1:=Lh e1;have E2:=Lh e2;clear HTH e1 e2;go_wp2
         go_meet
         rw[E1.out,E2.out];exact⟨_,by simpa using C9.out.set 2 (.slice A9 (F.blk n).insts.length c9),O9.out.other (p:=⟨wi.heap.size+1,2,none⟩) ZS _,R9.out.turn (fun k hk=>heap_set (by have:=(R9.out.lt hk).1;simp;omega)) (fun _ _ h=>h),B9.out.setCell ZS _⟩
       · as_aux_lemma=>
         have hna:n=a:=by have:=HTH.out;simp at this;omega
         subst hna;have e1:endAt F n b n=(F.blk b).term:=if_pos rfl;have e2:(putB F n b n).insts=(F.blk n).insts++(F.blk b).insts:=if_pos rfl;have E1:=Lh e1;have E2:=Lh e2;obtain⟨wE,hwE⟩:∃wE:World,wE=w9.setCell ⟨wi.heap.size+1,2,none⟩ (.slice A9 (F.blk n).insts.length c9):=⟨_,rfl⟩;have hBE:Below wi.heap.size wi wE:=by rw[hwE];exact B9.out.setCell ZS _
         have cE:BoxAt wE (wi.heap.size+1) #[.string (F.blk n).name,.slice none 0 0,.slice A9 (F.blk n).insts.length c9,.int .i64 (F.blk n).term.kind,.int .i64 (F.blk n).term.var,.int .i64 (F.blk n).term.t0,.int .i64 (F.blk n).term.t1] 62:=by rw[hwE];simpa using C9.out.set 2 (.slice A9 (F.blk n).insts.length c9)
         have oE:BoxAt wE wi.heap.size BC 62:=by rw[hwE];exact O9.out.other (p:=⟨wi.heap.size+1,2,none⟩) ZS _
         have RE:RRow wE (wi.heap.size+2) 67 4 (CInM W) (.slice A9 (F.blk n).insts.length c9) (F.blk n).insts:=by rw[hwE];exact R9.out.turn (fun k hk=>heap_set (by have:=(R9.out.lt hk).1;simp;omega)) (fun _ _ h=>h)
         clear HTH e1 e2 C9 O9 R9 B9 cl9 cf9 ct9 ol9 hr9 hy0 hy1 hy2 hy3 hy4 hy5 hy6
         go_upto_region 10 with fail
         go_loud (rw[← hwE])
         clear hwE;have fE:=(HFX.out.below hBE HFX.out.lt);have hWE:=HWR.out.trans (hBE.mono HWR.out.size);obtain⟨bb',off',A3',c3',A4',c4',e5,hbb',-,hz0,hz1,hz2,hz3,hz4,hz5,hz6,-,l4',-,k4',-,r4'⟩:=HR2.out.blk hWE hb;cases e5;have hd4':=(HF.out.blkD hWE hb hz1 hz2).2;have xC:=cE.cell 2;have xCl:=cE.lt;have xF:=fE.cell 2;have xFl:=fE.lt;simp at xC xF;clear hz0 hz1;refine wp_region_monoL [44,45,46,47,48,49,50,51] (fun i w' v'=>(([fun _ v'=>v'=.pointer (some ⟨wi.heap.size+1,2,none⟩),fun _ v'=>v'=.slice A9 (F.blk n).insts.length c9,fun _ v'=>v'=.pointer (some ⟨w.heap.size,2,none⟩),fun _ v'=>v'=.slice (some ⟨bb,off,none⟩) F.blocks.length c2,fun _ v'=>v'=.int .i64 (b:Int),fun _ v'=>v'=.pointer (some ⟨bb,off+b*7,none⟩),fun _ v'=>v'=.pointer (some ⟨bb,off+b*7+2,none⟩),fun _ v'=>v'=.slice A4' (F.blk b).insts.length c4']:List (World→Value→Prop)).getD i (fun _ _=>True)) w' v') ZK ZK ZK ZD ZK ZD ?mono ?step ?last
         case mono=>
          intro i w1 w2 v hi hb h
          match i,hi,h with
          |0,_,h=>exact h
          |1,_,h=>exact h
          |2,_,h=>exact h
          |3,_,h=>exact h
          |4,_,h=>exact h
          |5,_,h=>exact h
          |6,_,h=>exact h
          |7,_,h=>exact h
          |k+8,hi,_=>exact absurd hi (Nat.not_lt_of_le (Nat.le_add_left _ _))
         case step=>
          intro i o vs w1 ho hi hl hb hp K hK;have hl0:vs.length=8:=hl;clear hl;obtain⟨v0,r0,rfl,hl1⟩:=len_cons (n:=7) hl0;obtain⟨v1,r1,rfl,hl2⟩:=len_cons (n:=6) hl1;obtain⟨v2,r2,rfl,hl3⟩:=len_cons (n:=5) hl2;obtain⟨v3,r3,rfl,hl4⟩:=len_cons (n:=4) hl3;obtain⟨v4,r4,rfl,hl5⟩:=len_cons (n:=3) hl4;obtain⟨v5,r5,rfl,hl6⟩:=len_cons (n:=2) hl5;obtain⟨v6,r6,rfl,hl7⟩:=len_cons (n:=1) hl6;obtain⟨v7,r7,rfl,hl8⟩:=len_cons (n:=0) hl7;obtain rfl:=List.eq_nil_of_length_eq_zero hl8;clear hl0 hl1 hl2 hl3 hl4 hl5 hl6 hl7 hl8
          match i,ho,hi,hp with
          |0,ho,hi,hp=>
           obtain rfl:=Option.some.inj ho;clear hi;clear hp;simp only[putsL,Act.put,La,Lz,Lc];go_simp
           try go_wp2
           refine hK.out (.pointer (some ⟨wi.heap.size+1,2,none⟩)) _ _ ?_ ZE rfl;simp only[putsL,Act.put,La,Lz,Lc]
          |1,ho,hi,hp=>
           obtain rfl:=Option.some.inj ho;clear hi;have q0:v0=.pointer (some ⟨wi.heap.size+1,2,none⟩):=hp 0 ZK;obtain rfl:=q0;clear hp;simp only[putsL,Act.put,La,Lz,Lc];have z9:=(hb.cell (p:=⟨wi.heap.size+1,2,none⟩) xCl).trans xC;have zl:wi.heap.size+1<w1.heap.size:=Nt xCl hb.size;go_simp
           try go_wp2
           refine hK.out (.slice A9 (F.blk n).insts.length c9) _ _ ?_ ZE rfl;simp only[putsL,Act.put,La,Lz,Lc]
          |2,ho,hi,hp=>
           obtain rfl:=Option.some.inj ho;clear hi;clear hp;simp only[putsL,Act.put,La,Lz,Lc];go_simp
           try go_wp2
           refine hK.out (.pointer (some ⟨w.heap.size,2,none⟩)) _ _ ?_ ZE rfl;simp only[putsL,Act.put,La,Lz,Lc]
          |3,ho,hi,hp=>
           obtain rfl:=Option.some.inj ho;clear hi;have q2:v2=.pointer (some ⟨w.heap.size,2,none⟩):=hp 2 ZK;obtain rfl:=q2;clear hp;simp only[putsL,Act.put,La,Lz,Lc];have z9:=(hb.cell (p:=⟨w.heap.size,2,none⟩) xFl).trans xF;have zl:w.heap.size<w1.heap.size:=Nt xFl hb.size;go_simp
           try go_wp2
           refine hK.out (.slice (some ⟨bb,off,none⟩) F.blocks.length c2) _ _ ?_ ZE rfl;simp only[putsL,Act.put,La,Lz,Lc]
          |4,ho,hi,hp=>
           obtain rfl:=Option.some.inj ho;clear hi;clear hp;simp only[putsL,Act.put,La,Lz,Lc];go_simp
           try go_wp2
           refine hK.out (.int .i64 (b:Int)) _ _ ?_ ZE rfl;simp only[putsL,Act.put,La,Lz,Lc]
          |5,ho,hi,hp=>
           obtain rfl:=Option.some.inj ho;clear hi;have q3:v3=.slice (some ⟨bb,off,none⟩) F.blocks.length c2:=hp 3 ZK;have q4:v4=.int .i64 (b:Int):=hp 4 ZK;obtain rfl:=q3;obtain rfl:=q4;clear hp;simp only[putsL,Act.put,La,Lz,Lc];go_simp
           try go_wp2
           refine hK.out (.pointer (some ⟨bb,off+b*7,none⟩)) _ _ ?_ ZE rfl;simp only[putsL,Act.put,La,Lz,Lc]
          |6,ho,hi,hp=>
           obtain rfl:=Option.some.inj ho;clear hi;have q5:v5=.pointer (some ⟨bb,off+b*7,none⟩):=hp 5 ZK;obtain rfl:=q5;clear hp;simp only[putsL,Act.put,La,Lz,Lc];go_simp
           try go_wp2
           refine hK.out (.pointer (some ⟨bb,off+b*7+2,none⟩)) _ _ ?_ ZE rfl;simp only[putsL,Act.put,La,Lz,Lc]
          |7,ho,hi,hp=>
           obtain rfl:=Option.some.inj ho;clear hi;have q6:v6=.pointer (some ⟨bb,off+b*7+2,none⟩):=hp 6 ZK;obtain rfl:=q6;clear hp;simp only[putsL,Act.put,La,Lz,Lc];have z9:=(hb.cell (p:=⟨bb,off+b*7+2,none⟩) hbb').trans hz2;have zl:bb<w1.heap.size:=Nt hbb' hb.size;go_simp
           try go_wp2
           refine hK.out (.slice A4' (F.blk b).insts.length c4') _ _ ?_ ZE rfl;simp only[putsL,Act.put,La,Lz,Lc]
          |k+8,_,hi,_=>exact absurd hi (Nat.not_lt_of_le (Nat.le_add_left _ _))
         case last=>
          intro vs w1 hl hb1 hp;have hl0:vs.length=8:=hl;clear hl;obtain⟨v0,r0,rfl,hl1⟩:=len_cons (n:=7) hl0;obtain⟨v1,r1,rfl,hl2⟩:=len_cons (n:=6) hl1;obtain⟨v2,r2,rfl,hl3⟩:=len_cons (n:=5) hl2;obtain⟨v3,r3,rfl,hl4⟩:=len_cons (n:=4) hl3;obtain⟨v4,r4,rfl,hl5⟩:=len_cons (n:=3) hl4;obtain⟨v5,r5,rfl,hl6⟩:=len_cons (n:=2) hl5;obtain⟨v6,r6,rfl,hl7⟩:=len_cons (n:=1) hl6;obtain⟨v7,r7,rfl,hl8⟩:=len_cons (n:=0) hl7;obtain rfl:=List.eq_nil_of_length_eq_zero hl8;clear hl0 hl1 hl2 hl3 hl4 hl5 hl6 hl7 hl8;have q0:v0=.pointer (some ⟨wi.heap.size+1,2,none⟩):=hp 0 (of_decide_eq_true ZK);have q1:v1=.slice A9 (F.blk n).insts.length c9:=hp 1 (of_decide_eq_true ZK);have q2:v2=.pointer (some ⟨w.heap.size,2,none⟩):=hp 2 (of_decide_eq_true ZK);have q3:v3=.slice (some ⟨bb,off,none⟩) F.blocks.length c2:=hp 3 (of_decide_eq_true ZK);have q4:v4=.int .i64 (b:Int):=hp 4 (of_decide_eq_true ZK);have q5:v5=.pointer (some ⟨bb,off+b*7,none⟩):=hp 5 (of_decide_eq_true ZK);have q6:v6=.pointer (some ⟨bb,off+b*7+2,none⟩):=hp 6 (of_decide_eq_true ZK);have q7:v7=.slice A4' (F.blk b).insts.length c4':=hp 7 (of_decide_eq_true ZK);obtain rfl:=q0;obtain rfl:=q1;obtain rfl:=q2;obtain rfl:=q3;obtain rfl:=q4;obtain rfl:=q5;obtain rfl:=q6;obtain rfl:=q7;clear hp;simp only[putsL,Act.put,La,Lz,Lc];simp only[List.length_cons,List.length_nil,List.drop_succ_cons,List.drop_zero,Nat.zero_add,Nat.reduceAdd];have R1:=RE.kt (KT.of_below hb1 (ts:=[67])) ZS (fun _ _ h=>h);have B1:=hBE.trans (hb1.mono hBE.size);have C1:=cE.below hb1 xCl;have O1:=oE.below hb1 oE.lt;obtain⟨A8,c8,w8,hr8,hR8,hg8,ho8⟩:=run_appendD (P:=Tryz.prog) (w:=w1) (base:=wi.heap.size+2) (t:=56) (ty:=56) 4 48 Tryz.underlying56 Tryz.info67 rfl ZD ZD R1 (insts_done hd4' (hWE.trans (hb1.mono hWE.size))) (fun _ _ h=>one_inst h) ZO (by have:=C1.lt;omega);have hb8:Below (wi.heap.size+2) w1 w8:=(Br _ _).grown hg8 (by have:=C1.lt;omega) (fun k hk=>(R1.lt hk).1);have C8:=C1.below hb8 ZO;have O8:=O1.below hb8 ZO;have B8:=B1.trans (hb8.mono ZO);have C8z:=C8.set 2 (.slice A8 ((F.blk n).insts.length+(F.blk b).insts.length) c8);simp at C8z;have cf8:=C8.frozen 2;have ct8:=C8.cell 2;have cl8:=C8.lt;simp at ct8;have xf8:=fE.below hb1 xFl;have xf9:=(xf8.below hb8 ZO).cell 2;simp at xf9;have HC8:=Lh C8z;have HO8:=Lh O8;have HR8:=Lh hR8;have HB8:=Lh B8;have hw8:wi.heap.size≤w8.heap.size:=B8.size;have HBE:=Lh (hBE.trans (hb1.mono hBE.size));clear C8z O8 hR8 B8 C8 C1 O1 B1 R1 cE oE RE hb8 hg8 ho8 hb1 xf8 fE
          go_upto_region 11 with(at_builtin;go_loud (refine wpList_append_runD rfl _ _ 56 rfl rfl rfl hr8 ?_))
          obtain⟨wZ,hwZ⟩:∃wZ:World,wZ=w8.setCell ⟨wi.heap.size+1,2,none⟩ (.slice A8 ((F.blk n).insts.length+(F.blk b).insts.length) c8):=⟨_,rfl⟩
          go_loud (rw[← hwZ])
          have CZ:BoxAt wZ (wi.heap.size+1) #[.string (F.blk n).name,.slice none 0 0,.slice A8 ((F.blk n).insts.length+(F.blk b).insts.length) c8,.int .i64 (F.blk n).term.kind,.int .i64 (F.blk n).term.var,.int .i64 (F.blk n).term.t0,.int .i64 (F.blk n).term.t1] 62:=by rw[hwZ];exact HC8.out
          have OZ:BoxAt wZ wi.heap.size BC 62:=by rw[hwZ];exact HO8.out.other (p:=⟨wi.heap.size+1,2,none⟩) ZS _
          have RZ:RRow wZ (wi.heap.size+2) 67 4 (CInM W) (.slice A8 ((F.blk n).insts.length+(F.blk b).insts.length) c8) ((F.blk n).insts++(F.blk b).insts):=by rw[hwZ];exact HR8.out.turn (fun k hk=>heap_set (by have:=(HR8.out.lt hk).1;simp;omega)) (fun _ _ h=>h)
          have BZ:Below wi.heap.size wi wZ:=by rw[hwZ];exact HB8.out.setCell ZS _
          have hWZ:=HWR.out.trans (BZ.mono HWR.out.size);obtain⟨bb',off',A3',c3',A4',c4',e5,hbz,-,-,-,-,hz3,hz4,hz5,hz6,-,-,-,-,-,-⟩:=HR2.out.blk hWZ hb;cases e5;have fZ:=(HFX.out.below BZ HFX.out.lt);have xF:=fZ.cell 2;have xFl:=fZ.lt;have cl:=CZ.lt;have cf3:=CZ.frozen 3;have cf4:=CZ.frozen 4;have cf5:=CZ.frozen 5;have cf6:=CZ.frozen 6;have ct3:=CZ.cell 3;have ct4:=CZ.cell 4;have ct5:=CZ.cell 5;have ct6:=CZ.cell 6;simp at xF ct3 ct4 ct5 ct6;have HCZ:=Lh CZ;have HOZ:=Lh OZ;have HRZ:=Lh RZ;have HBZ:=Lh BZ;clear hwZ CZ OZ RZ BZ HC8 HO8 HR8 HB8 HBE cf8 ct8 cl8 xf9 hr8 fZ hWZ;go_wp2
          go_meet
          rw[E1.out,E2.out];refine⟨.slice A8 ((F.blk n).insts.length+(F.blk b).insts.length) c8,?_,?_,?_,?_⟩
          · have:=(((HCZ.out.set 3 (.int .i64 (F.blk b).term.kind)).set 4 (.int .i64 (F.blk b).term.var)).set 5 (.int .i64 (F.blk b).term.t0)).set 6 (.int .i64 (F.blk b).term.t1)
            simpa using this
          · exact(((HOZ.out.other (p:=⟨wi.heap.size+1,3,none⟩) ZS _).other (p:=⟨wi.heap.size+1,4,none⟩) ZS _).other (p:=⟨wi.heap.size+1,5,none⟩) ZS _).other (p:=⟨wi.heap.size+1,6,none⟩) ZS _
          · refine HRZ.out.turn (fun k hk=>?_) (fun _ _ h=>h)
            have hne:k≠wi.heap.size+1:=by have:=(HRZ.out.lt hk).1;omega
            exact(heap_set hne).trans ((heap_set hne).trans ((heap_set hne).trans (heap_set hne)))
          · exact(((HBZ.out.setCell (p:=⟨wi.heap.size+1,3,none⟩) ZS _).setCell (p:=⟨wi.heap.size+1,4,none⟩) ZS _).setCell (p:=⟨wi.heap.size+1,5,none⟩) ZS _).setCell (p:=⟨wi.heap.size+1,6,none⟩) ZS _
      case rest=>as_aux_lemma=>
       obtain⟨vI,hC,hO,hI,hbi⟩:=hcut;obtain⟨wq,rfl⟩:∃wq:World,wq=wc:=⟨_,rfl⟩;have o1:=hO.cell 1;rw[HBCQ.out]at o1;replace o1:wq.cell? ⟨wi.heap.size,1,none⟩=some (.slice A3 (F.blk n).phis.length c3):=o1;have ol:=hO.lt;obtain⟨AI,cI,rfl⟩:=hI.form;have HRG:=Lh (end_rg (a:=a) HG.out hb hlt);have HTE:=Lh (show(putB F a b n).term=mterm (tnI a b) (endAt F a b n)from rfl);have HIE:=Lh (show putB F a b n=⟨(F.blk n).name,(F.blk n).phis.map (mphi (tnI a b)),(putB F a b n).insts,mterm (tnI a b) (endAt F a b n)⟩from rfl);generalize endAt F a b n=T at *;generalize (putB F a b n).insts=IL at *;generalize putB F a b n=PB at *;have HC:=Lh hC;have HI:=Lh hI;have HBI:=Lh hbi;have r3:=HR3.out;clear hC hO hI hbi C9 O9 R9 B9 cl9 cf9 ct9 ol9 hr9 hy0 hy1 hy2 hy3 hy4 hy5 hy6 hth HTH;go_wp2_with fail;clear o1 ol
       go_loopw[64] (fun s wr=>∃(k:Nat) (vph:Value),s=.int .i64 k∧k≤(F.blk n).phis.length∧BoxAt wr (wi.heap.size+1) #[.string (F.blk n).name,vph,.slice AI IL.length cI,.int .i64 T.kind,.int .i64 T.var,.int .i64 T.t0,.int .i64 T.t1] 62∧RRow wr (wi.heap.size+2) 64 3 (CPhM W wr) vph (((F.blk n).phis.take k).map (mphi (tnI a b)))∧RRow wr (wi.heap.size+2) 67 4 (CInM W) (.slice AI IL.length cI) IL∧Below wi.heap.size wi wr) (fun s _=>(F.blk n).phis.length-(intOf s).toNat)
       case atStart=>exact⟨0,_,rfl,Nz _,HC.out,RRow.nil,HI.out,HBI.out⟩
       case round=>as_aux_lemma=>
        clear HC HI HBI;obtain⟨k,vph,rfl,hk,hC,hP,hJ,hbi⟩:=hrel;have hBr:Below w.heap.size w wr:=HB.out.trans (hbi.mono HB.out.size);have hWi:Below W.heap.size W wr:=hW.trans (hBr.mono hWs);obtain⟨Ap,cp,hv⟩:=hP.form;rw[List.length_map,List.length_take,Nat.min_eq_left hk]at hv;subst hv;have hCl:=hC.lt
        by_cases hkl:k<(F.blk n).phis.length
        · as_aux_lemma=>
          obtain⟨bp,op,A5,c5,A6,c6,e3,hbp,hp0,hp1,hp2,l5,l6,k5,k6,r5,r6⟩:=r3.phi hWi hkl;have hpl:=HN.out.pairs _ (mem_of_blk hlt) _ (mem_of_Phi hkl);have HFR:=Lh (HG.out.fr n hlt _ (mem_of_Phi hkl))
          have HCP:=Lh (by
           have h3:=hd3;rw[e3]at h3
           exact phiD h3 hWi hkl hp1:DInts W (NT N5 W) (.slice A5 ((F.blk n).phi k).args.length c5) ((F.blk n).phi k).args)
          have HTK:=Lh (take_phi hkl);generalize (F.blk n).phi k=ph at *;unfold Len at l5 l6;obtain⟨ws,rfl⟩:∃ws:World,ws=wr:=⟨_,rfl⟩;have hws:=hBr.size;have hzs:=hbi.size;have HC:=Lh hC;have HP:=Lh hP;have HJ:=Lh hJ;have HBI:=Lh hbi;have HBR:=Lh hBr;have HWI:=Lh hWi;obtain⟨wT,hwT⟩:∃wT:World,wT=(ws.alloc (.cells #[.int .i64 ph.dst,.slice A5 ph.args.length c5,.slice A6 ph.froms.length c6] 64)).alloc (.cells #[.int .i64 ph.dst,.slice A5 ph.args.length c5,.slice none 0 0] 64):=⟨_,rfl⟩;have HBT:=Lh (show Below ws.heap.size ws wT by rw[hwT];exact((Br _ _).alloc (Nr _) _).alloc ZS _)
          have HQT:=Lh (show BoxAt wT (ws.heap.size+1) #[.int .i64 ph.dst,.slice A5 ph.args.length c5,.slice none 0 0] 64 by
           rw[hwT];have:=BoxAt.new (ws.alloc (.cells #[.int .i64 ph.dst,.slice A5 ph.args.length c5,.slice A6 ph.froms.length c6] 64)) #[.int .i64 ph.dst,.slice A5 ph.args.length c5,.slice none 0 0] 64
           simpa using this)
          clear hC hP hJ hbi hBr hWi r5;subst e3;go_wp2_with fail
          go_loud (rw[← hwT])
          clear hwT hp0 hp1 hp2
          go_loopw[76] (fun s wr=>∃(m:Nat) (vf:Value),s=.int .i64 m∧m≤ph.froms.length∧BoxAt wr (ws.heap.size+1) #[.int .i64 ph.dst,.slice A5 ph.args.length c5,vf] 64∧wr.ownsRow (ws.heap.size+2) 3 1 vf m (((ph.froms.take m).map (tnI a b)).map (Value.int .i64))∧Below ws.heap.size ws wr) (fun s _=>ph.froms.length-(intOf s).toNat)
          case atStart=>exact⟨0,_,rfl,Nz _,HQT.out,World.ownsRow_nil _ _ _ _,HBT.out⟩
          case round=>as_aux_lemma=>
           clear HBT HQT;obtain⟨m,vf,rfl,hm,hQ,hO6,hbs⟩:=hrel;have hWs2:Below W.heap.size W wr:=HWI.out.trans (hbs.mono HWI.out.size);obtain⟨Af,cf,rfl⟩:=own_form hO6;have hQl:=hQ.lt
           by_cases hml:m<ph.froms.length
           · as_aux_lemma=>
             obtain⟨b6,o6,e6,hb6,hc6⟩:=r6.int hWs2 hml;obtain⟨x,hx,hxl⟩:=HFR.out _ (List.mem_of_getElem? (ith_get hml));have HTF:=Lh (show(ph.froms.take (m+1)).map (tnI a b)=(ph.froms.take m).map (tnI a b)++[tnI a b (x:Int)] by rw[List.take_add_one,ith_get hml,hx];simp);rw[hx]at hc6;subst e6;obtain⟨th,hth⟩:∃th:Bool,((x:Int)==(b:Int))=th:=⟨_,rfl⟩;have HTH:=Lh hth;have HQ:=Lh hQ;have HO6:=Lh hO6;have HBS:=Lh hbs;clear hQ hO6 hbs hWs2 hx
             go_upto_if 82 with fail
             go_cut[15] (fun s wx=>∃y:Int,s=.int .i64 y∧Hid (tnI a b y=tnI a b (x:Int)∧y≤1048576)∧wx=wr)
             case first=>
              cases th
              · as_aux_lemma=>
                go_wp2
                go_meet
                exact⟨_,rfl,⟨rfl,ZO⟩,rfl⟩
              · as_aux_lemma=>
                have HXB:=Lh (show(x:Int)=(b:Int) by have:=HTH.out;simp at this;omega);clear HTH;go_wp2
                go_meet
                exact⟨_,rfl,⟨by rw[HXB.out];exact HTA.out,ZO⟩,rfl⟩
             case rest=>as_aux_lemma=>
              obtain⟨y,rfl,hy,rfl⟩:=hcut;have HTU:=Lh (fun w=>turned_calls (w:=w) y a b hy.2 ZO);have hQ:=HQ.out;have hT2:=hQ.cell 2;simp at hT2;clear hQ hc6 hth HTH hb6
              go_upto_region 21 with fail
              refine wp_region_monoL [84,85,86,87,88,89,90] (fun i w' v'=>(([fun _ v'=>v'=.pointer (some ⟨ws.heap.size+1,2,none⟩),fun _ v'=>v'=.slice Af m cf,fun _ v'=>v'=.int .i64 y,fun _ v'=>v'=.int .i64 (a:Int),fun _ v'=>v'=.int .i64 (b:Int),fun _ v'=>v'=.int .i64 (tnI a b y),fun w' v'=>∃N,v'=.slice (some ⟨N,0,none⟩) 1 1∧N<w'.heap.size∧w'.cell? ⟨N,0,none⟩=some (.int .i64 (tnI a b y))]:List (World→Value→Prop)).getD i (fun _ _=>True)) w' v') ZK ZK ZK ZD ZK ZD ?mono ?step ?last
              case mono=>
               intro i w1 w2 v hi hb h
               match i,hi,h with
               |0,_,h=>exact h
               |1,_,h=>exact h
               |2,_,h=>exact h
               |3,_,h=>exact h
               |4,_,h=>exact h
               |5,_,h=>exact h
               |6,_,h=>exact(by obtain⟨N,e1,e2,e3⟩:=h;exact⟨N,e1,Nt e2 hb.size,(hb.cell (p:=⟨N,0,none⟩) e2).trans e3⟩)
               |k+7,hi,_=>exact absurd hi (Nat.not_lt_of_le (Nat.le_add_left _ _))
              case step=>
               intro i o vs w1 ho hi hl hb hp K hK;have hl0:vs.length=7:=hl;clear hl;obtain⟨v0,r0,rfl,hl1⟩:=len_cons (n:=6) hl0;obtain⟨v1,r1,rfl,hl2⟩:=len_cons (n:=5) hl1;obtain⟨v2,r2,rfl,hl3⟩:=len_cons (n:=4) hl2;obtain⟨v3,r3,rfl,hl4⟩:=len_cons (n:=3) hl3;obtain⟨v4,r4,rfl,hl5⟩:=len_cons (n:=2) hl4;obtain⟨v5,r5,rfl,hl6⟩:=len_cons (n:=1) hl5;obtain⟨v6,r6,rfl,hl7⟩:=len_cons (n:=0) hl6;obtain rfl:=List.eq_nil_of_length_eq_zero hl7;clear hl0 hl1 hl2 hl3 hl4 hl5 hl6 hl7
               match i,ho,hi,hp with
               |0,ho,hi,hp=>
                obtain rfl:=Option.some.inj ho;clear hi;clear hp;simp only[putsL,Act.put,La,Lz,Lc];go_simp
                try go_wp2
                refine hK.out (.pointer (some ⟨ws.heap.size+1,2,none⟩)) _ _ ?_ ZE rfl;simp only[putsL,Act.put,La,Lz,Lc]
               |1,ho,hi,hp=>
                obtain rfl:=Option.some.inj ho;clear hi;have q0:v0=.pointer (some ⟨ws.heap.size+1,2,none⟩):=hp 0 ZK;obtain rfl:=q0;clear hp;simp only[putsL,Act.put,La,Lz,Lc];have z9:=(hb.cell (p:=⟨ws.heap.size+1,2,none⟩) hQl).trans hT2;have zl:ws.heap.size+1<w1.heap.size:=Nt hQl hb.size;go_simp
                try go_wp2
                refine hK.out (.slice Af m cf) _ _ ?_ ZE rfl;simp only[putsL,Act.put,La,Lz,Lc]
               |2,ho,hi,hp=>
                obtain rfl:=Option.some.inj ho;clear hi;clear hp;simp only[putsL,Act.put,La,Lz,Lc];go_simp
                try go_wp2
                refine hK.out (.int .i64 y) _ _ ?_ ZE rfl;simp only[putsL,Act.put,La,Lz,Lc]
               |3,ho,hi,hp=>
                obtain rfl:=Option.some.inj ho;clear hi;clear hp;simp only[putsL,Act.put,La,Lz,Lc];go_simp
                try go_wp2
                refine hK.out (.int .i64 (a:Int)) _ _ ?_ ZE rfl;simp only[putsL,Act.put,La,Lz,Lc]
               |4,ho,hi,hp=>
                obtain rfl:=Option.some.inj ho;clear hi;clear hp;simp only[putsL,Act.put,La,Lz,Lc];go_simp
                try go_wp2
                refine hK.out (.int .i64 (b:Int)) _ _ ?_ ZE rfl;simp only[putsL,Act.put,La,Lz,Lc]
               |5,ho,hi,hp=>
                obtain rfl:=Option.some.inj ho;clear hi;have q2:v2=.int .i64 y:=hp 2 ZK;have q3:v3=.int .i64 (a:Int):=hp 3 ZK;have q4:v4=.int .i64 (b:Int):=hp 4 ZK;obtain rfl:=q2;obtain rfl:=q3;obtain rfl:=q4;clear hp;simp only[putsL,Act.put,La,Lz,Lc];go_simp;go_at_call 73;refine(HTU.out _).mono ?_;rintro e w9 ⟨rfl,rfl⟩;refine hK.out (.int .i64 (tnI a b y)) _ _ ?_ (Br _ _) (rfl);simp only[putsL,Act.put,La,Lz,Lc]
               |6,ho,hi,hp=>
                obtain rfl:=Option.some.inj ho;clear hi;have q5:v5=.int .i64 (tnI a b y):=hp 5 ZK;obtain⟨rfl⟩:=q5;clear hp;simp only[putsL,Act.put,La,Lz,Lc];go_simp;refine hK.out (.slice (some ⟨w1.heap.size,0,none⟩) 1 1) _ _ ?_ ((Br _ _).alloc (Nr _) _) (⟨_,rfl,ZS,by rw[(BoxAt.new _ _ _).cell];rfl⟩);simp only[putsL,Act.put,La,Lz,Lc]
               |k+7,_,hi,_=>exact absurd hi (Nat.not_lt_of_le (Nat.le_add_left _ _))
              case last=>
               intro vs w1 hl hb1 hp;have hl0:vs.length=7:=hl;clear hl;obtain⟨v0,r0,rfl,hl1⟩:=len_cons (n:=6) hl0;obtain⟨v1,r1,rfl,hl2⟩:=len_cons (n:=5) hl1;obtain⟨v2,r2,rfl,hl3⟩:=len_cons (n:=4) hl2;obtain⟨v3,r3,rfl,hl4⟩:=len_cons (n:=3) hl3;obtain⟨v4,r4,rfl,hl5⟩:=len_cons (n:=2) hl4;obtain⟨v5,r5,rfl,hl6⟩:=len_cons (n:=1) hl5;obtain⟨v6,r6,rfl,hl7⟩:=len_cons (n:=0) hl6;obtain rfl:=List.eq_nil_of_length_eq_zero hl7;clear hl0 hl1 hl2 hl3 hl4 hl5 hl6 hl7;have q0:v0=.pointer (some ⟨ws.heap.size+1,2,none⟩):=hp 0 (of_decide_eq_true ZK);have q1:v1=.slice Af m cf:=hp 1 (of_decide_eq_true ZK);have q2:v2=.int .i64 y:=hp 2 (of_decide_eq_true ZK);have q3:v3=.int .i64 (a:Int):=hp 3 (of_decide_eq_true ZK);have q4:v4=.int .i64 (b:Int):=hp 4 (of_decide_eq_true ZK);have q5:v5=.int .i64 (tnI a b y):=hp 5 (of_decide_eq_true ZK);have q6:∃N,v6=.slice (some ⟨N,0,none⟩) 1 1∧N<w1.heap.size∧w1.cell? ⟨N,0,none⟩=some (.int .i64 (tnI a b y)):=hp 6 (of_decide_eq_true ZK);obtain rfl:=q0;obtain rfl:=q1;obtain rfl:=q2;obtain rfl:=q3;obtain rfl:=q4;obtain⟨rfl⟩:=q5;obtain⟨N8,rfl,hN8,hcN⟩:=q6;clear hp;simp only[putsL,Act.put,La,Lz,Lc];simp only[List.length_cons,List.length_nil,List.drop_succ_cons,List.drop_zero,Nat.zero_add,Nat.reduceAdd];have hO1:=own_below HO6.out hb1;have hQ1:=HQ.out.below hb1 hQl;have hz1:=hb1.size;have hbw:=HBS.out.trans (hb1.mono HBS.out.size)
               go_wp2_with(
                at_builtin;refine wpList_oneI rfl _ _ rfl rfl rfl rfl hO1 hcN ZO ZO ?_
                intro A9 c9 w9 ho9 hg9 hb9;have hz9:=hb9.size;have hx9:=hQ1.below hb9 ZO;have e1:=hx9.cell 2;have f9:=hx9.frozen 2;have l9:=hx9.lt
                simp at e1)
               go_roundw
               case rel=>
                refine⟨m+1,.slice A9 (m+1) c9,ZN,ZO,by simpa using hx9.set 2 (.slice A9 (m+1) c9),?_,(hbw.trans (hb9.mono ZO)).setCell ZS _⟩;rw[HTF.out,← hy.1];exact ownsRow_setCell_other ho9 (fun e=>by have:=(own_lt ho9 e).1;simp at this) _
               case measure=>simp[intOf];omega
           · as_aux_lemma=>
             obtain rfl:m=ph.froms.length:=by omega
             rw[List.take_length]at hO6;have hCr:=HC.out.below hbs HC.out.lt;have d1c:=hCr.cell 1;have dlc:=hCr.lt;have q0:=hQ.cell 0;have q1:=hQ.cell 1;have q2:=hQ.cell 2;simp at d1c q0 q1 q2;have hK1:KT [3,64,67] ws wr:=KT.of_below hbs;have hPr:=HP.out.kt hK1 ZS (fun _ _ h=>h.kt hK1 ZS);have hlk:(((F.blk n).phis.take k).map (mphi (tnI a b))).length=k:=by rw[List.length_map,List.length_take,Nat.min_eq_left hk]
             obtain⟨cells,hO8⟩:=hPr.own;rw[hlk]at hO8;have HLK:=Lh hlk;have HOB:=Lh (fun k' (hk':(Value.slice Ap k cp).ownBlock=some k')=>HP.out.lt hk');have HPR:=Lh hPr;have HJR:=Lh (HJ.out.kt hK1 ZS (fun _ _ h=>h));have HCR:=Lh hCr;have HO6:=Lh hO6;have HBS:=Lh hbs;have hzr:=hbs.size;clear hlk hPr hCr hO6 hbs hK1 hWs2 hQ hQl hm hml;go_wp2_with(at_builtin;refine wpList_appendF _ rfl _ _ 55 rfl (wi.heap.size+2) 64 3 56 Tryz.underlying55 Tryz.info64 rfl ZD _ k cells rfl hO8 _ rfl #[.int .i64 ph.dst,.slice A5 ph.args.length c5,.slice Af ph.froms.length cf] rfl rfl (by intro u hu;simp at hu;rcases hu with rfl|rfl|rfl<;>rfl) ZO ZD ZO ?_;intro v' w3 hown3 hg3 hfr3;obtain⟨Av,cv,hv3⟩:=own_form hown3;subst hv3;have hz3:=hg3.size;simp at hz3;have hbC3:=(HCR.out.alloc _).grown hg3 (fun e=>by have:=(HOB.out _ e).1;omega);have t3:=hbC3.cell 1;simp at t3;have t3f:=hbC3.frozen 1;have t3l:=hbC3.lt);go_roundw
             case rel=>
              have hgg:(wr.alloc (.cells #[.int .i64 ph.dst,.slice A5 ph.args.length c5,.slice Af ph.froms.length cf] 64)).grownBy w3 (Value.slice Ap k cp).ownBlock:=hg3;have hK3:KT [3,67] wr (w3.setCell ⟨wi.heap.size+1,1,none⟩ (.slice Av (k+1) cv)):=((KT.refl.alloc _).grown (hO8.alloc _) ZS hgg).setCell hbC3 ZS _;refine⟨k+1,.slice Av (k+1) cv,ZN,ZO,by simpa using hbC3.set 1 (.slice Av (k+1) cv),?_,HJR.out.kt hK3 ZS (fun _ _ h=>h),?_⟩
              · rw[HTK.out,List.map_append]
                refine RRow.snoc (C:=CPhM W wr) (cs:=[.int .i64 ph.dst,.slice A5 ph.args.length c5,.slice Af ph.froms.length cf]) HPR.out (by rw[HLK.out];exact hO8) ?_ rfl (fun _ _ h=>h.kt hK3 ZS) ?_
                · rw[HLK.out]
                  exact ownsRow_setCell_other hown3 (fun e=>by have:=(own_lt hown3 e).1;simp at this) _
                · have h6:=own_kt HO6.out hK3 ZS
                  exact⟨_,_,rfl,HCP.out,by
                   have hd:=DInts.of_own (D:=NT [3] (w3.setCell ⟨wi.heap.size+1,1,none⟩ (.slice Av (k+1) cv))) h6 (Nat.le_trans hpl.2 ZD) (own_nt h6 ZS)
                   exact hd⟩
              · exact(((HBI.out.trans (HBS.out.mono HBI.out.size)).alloc ZO _).grown hgg ZX (fun k' hk'=>by have:=(HOB.out k' hk').1;omega)).setCell ZS _
             case measure=>simp[intOf];omega
        · as_aux_lemma=>
          obtain rfl:k=(F.blk n).phis.length:=by omega
          rw[List.take_length]at hP;obtain⟨wj,rfl⟩:∃wj:World,wj=wr:=⟨_,rfl⟩;have HP:=Lh hP;have HJ:=Lh hJ;have HBI:=Lh hbi;have HBR:=Lh hBr;have HC0:=Lh (show BoxAt wj (wi.heap.size+1) #[.string (F.blk n).name,.slice Ap (F.blk n).phis.length cp,.slice AI IL.length cI,.int .i64 T.kind,.int .i64 T.var,.int .i64 (tmK (tnI a b) T 0).t0,.int .i64 (tmK (tnI a b) T 0).t1] 62 by rw[tmK_zero];exact hC);have hw1:wi.heap.size+1<wj.heap.size:=hCl;clear hP hJ hbi hBr hC hk hkl hWi hCl;go_wp2_with fail
          go_loopw[101] (fun s wr=>∃k:Nat,s=.int .i64 k∧k≤2∧BoxAt wr (wi.heap.size+1) #[.string (F.blk n).name,.slice Ap (F.blk n).phis.length cp,.slice AI IL.length cI,.int .i64 T.kind,.int .i64 T.var,.int .i64 (tmK (tnI a b) T k).t0,.int .i64 (tmK (tnI a b) T k).t1] 62∧Kp (fun b=>b≠wi.heap.size+1) wj wr) (fun s _=>2-(intOf s).toNat)
          case atStart=>exact⟨0,rfl,ZD,HC0.out,Kp.refl⟩
          case round=>as_aux_lemma=>
           obtain⟨k,rfl,hk,hC,hK⟩:=hrel;have hCl:=hC.lt;have c3:=hC.cell 3;have f5:=hC.frozen 5;have f6:=hC.frozen 6;have c5:=hC.cell 5;have c6:=hC.cell 6;simp at c3 c5 c6;have HC:=Lh hC;have HK:=Lh hK;clear hC hK
           by_cases hk2:k<2
           · as_aux_lemma=>
             have hkd:(T.kind=0∨T.kind=1)∨(T.kind≠0∧T.kind≠1):=by omega
             rcases hkd with hkd|hkd
             · as_aux_lemma=>
               obtain⟨x,hx,hxl⟩:=HRG.out.1 hkd;rcases(show k=0∨k=1 from ZO)with rfl|rfl
               · as_aux_lemma=>
                 have HT1:=Lh (show(tmK (tnI a b) T 1).t0=tnI a b (x:Int)∧(tmK (tnI a b) T 1).t1=(tmK (tnI a b) T 0).t1 by simp[tmK,hkd,hx]);rw[show(tmK (tnI a b) T 0).t0=(x:Int) by simp[tmK,hx]]at c5;have HTU:=Lh (fun w=>turned_calls (w:=w) (x:Int) a b ZO ZO);rcases hkd with h0|h0
                 all_goals
                  rw[h0]at c3;have HH:=Lh h0;clear h0 hx hxl c6;go_wp2_with(go_at_call 73;refine(HTU.out _).mono ?_;rintro e w9 ⟨rfl,rfl⟩);go_roundw
                  case rel=>exact⟨1,ZN,ZD,by rw[HT1.out.1,HT1.out.2];simpa using HC.out.set 5 (.int .i64 (tnI a b (x:Int))),HK.out.setCell (p:=⟨wi.heap.size+1,5,none⟩) (fun h=>h rfl) _⟩
                  case measure=>simp[intOf]
               · as_aux_lemma=>
                 rcases hkd with h0|h0
                 · as_aux_lemma=>
                   have HT1:=Lh (show(tmK (tnI a b) T 2).t0=(tmK (tnI a b) T 1).t0∧(tmK (tnI a b) T 2).t1=(tmK (tnI a b) T 1).t1 by simp[tmK,h0]);rw[h0]at c3;have HH:=Lh h0;clear h0 hx hxl c6 c5;go_wp2;go_roundw
                   case rel=>exact⟨2,ZN,ZD,by rw[HT1.out.1,HT1.out.2];exact HC.out,HK.out⟩
                   case measure=>simp[intOf]
                 · as_aux_lemma=>
                   obtain⟨z,hz,hzl⟩:=HRG.out.2 h0;have HT1:=Lh (show(tmK (tnI a b) T 2).t0=(tmK (tnI a b) T 1).t0∧(tmK (tnI a b) T 2).t1=tnI a b (z:Int) by simp[tmK,h0,hz]);rw[show(tmK (tnI a b) T 1).t1=(z:Int) by simp[tmK,hz]]at c6;have HTU:=Lh (fun w=>turned_calls (w:=w) (z:Int) a b ZO ZO);rw[h0]at c3;have HH:=Lh h0;clear h0 hx hxl hz hzl c5;go_wp2_with(go_at_call 73;refine(HTU.out _).mono ?_;rintro e w9 ⟨rfl,rfl⟩);go_roundw
                   case rel=>exact⟨2,ZN,ZD,by rw[HT1.out.1,HT1.out.2];simpa using HC.out.set 6 (.int .i64 (tnI a b (z:Int))),HK.out.setCell (p:=⟨wi.heap.size+1,6,none⟩) (fun h=>h rfl) _⟩
                   case measure=>simp[intOf]
             · as_aux_lemma=>
               have h1:(T.kind==1)=false:=by simp[hkd.2]
               have h0:(T.kind==0)=false:=by simp[hkd.1]
               have HT1:=Lh (show(tmK (tnI a b) T (k+1)).t0=(tmK (tnI a b) T k).t0∧(tmK (tnI a b) T (k+1)).t1=(tmK (tnI a b) T k).t1 by simp[tmK,hkd.1,hkd.2]);clear hkd c5 c6;go_wp2;go_roundw
               case rel=>exact⟨k+1,ZN,ZO,by rw[HT1.out.1,HT1.out.2];exact HC.out,HK.out⟩
               case measure=>simp[intOf];omega
           · as_aux_lemma=>
             obtain rfl:k=2:=by omega
             have hC:=HC.out;rw[tmK_two]at hC;have hK:=HK.out;have hBz:Below wi.heap.size wi wr:=HBI.out.trans (hK.to_below (B:=wi.heap.size) (fun b hb=>ZO) ZO);have hto:=KT.of_box hK HC0.out;have hPr:=HP.out.kt hto ZS (fun _ _ h=>h.kt hto ZS);have hJr:=HJ.out.kt hto ZS (fun _ _ h=>h);have hKw:KT [3,64,67,62] wi wr:=KT.of_below hBz;have hRr:=HR.out.kt hKw ZS (fun _ _ h=>h.kt hKw ZS ZS ZS);obtain⟨cells,hOb⟩:=hRr.own;have hobb:=fun k' (hk':(Value.slice Ab ps.length cb).ownBlock=some k')=>(HR.out.lt hk').1
             have hgo:=HBX.out.below hBz HBX.out.lt;have o2:=hgo.cell 2;have ogl:=hgo.lt;simp at o2;have hwz:=hBz.size;have hcR:wr.rangeAt (wi.heap.size+1) 0 ([.string (F.blk n).name,.slice Ap (F.blk n).phis.length cp,.slice AI IL.length cI,.int .i64 T.kind,.int .i64 T.var,.int .i64 (mterm (tnI a b) T).t0,.int .i64 (mterm (tnI a b) T).t1]:List Value):=by
              have:=World.rangeAt_of_block (w:=wr) (b:=wi.heap.size+1) hC 0 7;simpa using this
             have huB:=Tryz.underlying62;have hinB:(Tryz.prog.info? 62).map (·.size)=some ([.string (F.blk n).name,.slice Ap (F.blk n).phis.length cp,.slice AI IL.length cI,.int .i64 T.kind,.int .i64 T.var,.int .i64 (mterm (tnI a b) T).t0,.int .i64 (mterm (tnI a b) T).t1]:List Value).length:=by kernel_rfl
             have HPR:=Lh hPr;have HJR:=Lh hJr;have HRR:=Lh hRr;have HGO:=Lh hgo;have HBZ:=Lh hBz;have HOBB:=Lh hobb;have hpl64:ps.length≤100000:=by omega
             clear hPr hJr hRr hgo hBz hobb hC hK hto hKw c3 c5 c6 f5 f6 hk hk2 HC HK
             go_upto_region 31 with fail
             go_wp2_with(first
              |(refine wpList_load_mid rfl 62 _ rfl (wi.heap.size+1) 0 rfl [.string (F.blk n).name,.slice Ap (F.blk n).phis.length cp,.slice AI IL.length cI,.int .i64 T.kind,.int .i64 T.var,.int .i64 (mterm (tnI a b) T).t0,.int .i64 (mterm (tnI a b) T).t1] _ hcR huB rfl hinB ?_)
              |(refine wpList_one7 rfl _ _ _ rfl Tryz.underlying24 Tryz.info62 rfl ?_)
              |(at_builtin;refine wpList_appendF _ rfl _ _ 24 rfl (w.heap.size+3) 62 7 96 Tryz.underlying24 Tryz.info62 rfl ZD _ ps.length cells rfl hOb _ ZS #[.string (F.blk n).name,.slice Ap (F.blk n).phis.length cp,.slice AI IL.length cI,.int .i64 T.kind,.int .i64 T.var,.int .i64 (mterm (tnI a b) T).t0,.int .i64 (mterm (tnI a b) T).t1] rfl rfl (by intro u hu;simp at hu;rcases hu with rfl|rfl|rfl|rfl|rfl|rfl|rfl<;>rfl) ZO ZD ZO ?_
                intro v' w3 hown3 hg3 hfr3;obtain⟨Av,cv,hv3⟩:=own_form hown3;subst hv3;have hz3:=hg3.size;simp at hz3;have hgo3:=(HGO.out.alloc (.cells #[.string (F.blk n).name,.slice Ap (F.blk n).phis.length cp,.slice AI IL.length cI,.int .i64 T.kind,.int .i64 T.var,.int .i64 (mterm (tnI a b) T).t0,.int .i64 (mterm (tnI a b) T).t1] 62)).grown hg3 (fun e=>by have:=HOBB.out _ e;omega);have t3:=hgo3.cell 2;simp at t3;have t3f:=hgo3.frozen 2
                have t3l:=hgo3.lt))
             go_roundw
             case rel=>
              have hgg:(wr.alloc (.cells #[.string (F.blk n).name,.slice Ap (F.blk n).phis.length cp,.slice AI IL.length cI,.int .i64 T.kind,.int .i64 T.var,.int .i64 (mterm (tnI a b) T).t0,.int .i64 (mterm (tnI a b) T).t1] 62)).grownBy w3 (Value.slice Ab ps.length cb).ownBlock:=hg3;have hKz:KT [3,64,67] wr (w3.setCell ⟨w.heap.size+2,2,none⟩ (.slice Av (ps.length+1) cv)):=((KT.refl.alloc _).grown (hOb.alloc _) ZS hgg).setCell hgo3 ZS _;refine⟨n+1,.slice Av (ps.length+1) cv,ps++[(PB,.slice Ap (F.blk n).phis.length cp,.slice AI IL.length cI)],ZN,hlt,?_,?_,?_,?_,?_,?_⟩
              · show Hid (_=_)
                rw[List.map_append,HPS.out,HE.out];rfl
              · simpa using hgo3.set 2 (.slice Av (ps.length+1) cv)
              · exact(((HFX.out.below HBZ.out HFX.out.lt).alloc _).grown hgg (fun e=>by have:=HOBB.out _ e;omega)).other (p:=⟨w.heap.size+2,2,none⟩) ZS _
              · exact(((HRE.out.below HBZ.out HRE.out.lt).alloc _).grown hgg (fun e=>by have:=HOBB.out _ e;omega)).other (p:=⟨w.heap.size+2,2,none⟩) ZS _
              · refine RRow.snoc (cs:=[.string (F.blk n).name,.slice Ap (F.blk n).phis.length cp,.slice AI IL.length cI,.int .i64 T.kind,.int .i64 T.var,.int .i64 (mterm (tnI a b) T).t0,.int .i64 (mterm (tnI a b) T).t1]) HRR.out hOb (ownsRow_setCell_other hown3 (fun e=>by have h:=(own_lt hown3 e).1;change w.heap.size+3≤w.heap.size+2 at h;omega) _) rfl (fun _ _ h=>h.kt hKz ZS ZS ZS) ?_
                rw[HIE.out];have hmk:=mterm_kind (tnI a b) T;refine⟨by simp[hmk.1,hmk.2],hnz,?_,?_⟩
                · exact(HPR.out.kt hKz ZS (fun _ _ h=>h.kt hKz ZS)).rebase ZO
                · exact(HJR.out.kt hKz ZS (fun _ _ h=>h)).rebase ZO
              · exact(((HB.out.trans (HBZ.out.mono hzi)).alloc ZO _).grown hgg ZX (fun k' hk'=>by have:=HOBB.out _ hk';omega)).setCell ZX _
             case measure=>simp[intOf];omega
  · as_aux_lemma=>
    obtain rfl:n=F.blocks.length:=by omega
    have z0:=hbx.cell 0;have z1:=hbx.cell 1;have z2:=hbx.cell 2;have zl:=hbx.lt;have e0:=hre.cell 0;have e1:=hre.cell 1;have e2:=hre.cell 2;have f0:=hre.frozen 0;have f1:=hre.frozen 1;have f2:=hre.frozen 2;have el:=hre.lt;simp at z0 z1 z2 e0 e1 e2;have HBX:=Lh hbx;have HRE:=Lh hre;have HR:=Lh hR;have HB:=Lh hB;have HWR:=Lh hWr;clear hbx hfx hre hR hB hpl hWr;go_wp2;have hz:=HRE.out.set3 (a:=.slice A0 F.vars.length c0) (b:=.slice A1 F.params.length c1) (c:=.slice Ab ps.length cb);have z0:=hz.cell 0;have z1:=hz.cell 1;have z2:=hz.cell 2;simp only[List.getElem?_toArray,List.getElem?_cons_zero,List.getElem?_cons_succ]at z0 z1 z2;have hK:KT [3,64,67,62] wr (((wr.setCell ⟨w.heap.size+1,0,none⟩ (.slice A0 F.vars.length c0)).setCell ⟨w.heap.size+1,1,none⟩ (.slice A1 F.params.length c1)).setCell ⟨w.heap.size+1,2,none⟩ (.slice Ab ps.length cb)):=
     ((KT.refl.setCell HRE.out ZS _).setCell (HRE.out.set 0 _) ZS _).setCell ((HRE.out.set 0 _).set 1 _) ZS _
    have hBz:=((HB.out.setCell (p:=⟨w.heap.size+1,0,none⟩) ZS (.slice A0 F.vars.length c0)).setCell (p:=⟨w.heap.size+1,1,none⟩) ZS (.slice A1 F.params.length c1)).setCell (p:=⟨w.heap.size+1,2,none⟩) ZS (.slice Ab ps.length cb);have hWz:=hW.trans (hBz.mono hWs);have hfn:=fnM_of HF.out hWz (HR.out.kt hK ZS fun _ _ h=>h.kt hK ZS ZS ZS) (HPS.out.trans putK_all.symm) rfl rfl HNG.out;exact bodyPost_ret (v:=.agg #[.slice A0 F.vars.length c0,.slice A1 F.params.length c1,.slice Ab ps.length cb]) (by simp[results,Tryz.results45,go_sem,z0,z1,z2]) rfl ⟨⟨_,rfl,hfn⟩,hBz⟩
structure StG (H G:PFunc):Prop where
 ps:PutS H G
 bnd:Bnd G
 ins:insN G≤1024
theorem insN_le{F:PFunc}(h:typedP F=true):insN F≤1024:=by
 have h1:=typed_shaped h;unfold shapedP at h1;rw[Bool.and_eq_true,decide_eq_true_eq,sumB_eq]at h1;refine Nat.le_trans ?_ h1.2;unfold insN;rw[← blocks_map (f:=fun x=>x.insts.length)];generalize F.blocks=l
 induction l with
 |nil=>exact Nr _
 |cons x l ih=>
  simp only[List.map_cons,List.sum_cons];omega
theorem put_bnd{G:PFunc}{a b:Nat}(hB:Bnd G)(hi:insN G≤1024)(hf:fol G a b=true):Bnd (putF G a b):=by
 obtain⟨ha,hb,-,-,hab,-,-⟩:=fol_parts hf;have hm:∀x∈(putF G a b).blocks,∃j,j<G.blocks.length-1∧x=putB G a b (up b j):=fun x hx=>by
  obtain⟨j,hj⟩:=List.getElem?_of_mem hx;have hl:=(List.getElem?_eq_some_iff.1 hj).1;rw[put_len hb]at hl;refine⟨j,hl,?_⟩;have h1:=put_blk (a:=a) hb hl;rw[← h1];unfold PFunc.blk;rw[List.getD_eq_getElem?_getD,hj];rfl
 refine⟨hB.vars,hB.params,by rw[put_len hb];have:=hB.blocks;omega,fun x hx=>?_,fun x hx p hp=>?_,fun x hx y hy=>?_⟩
 · obtain⟨j,hj,rfl⟩:=hm x hx
   have h1:=up_lt hb hj;refine⟨by simpa[putB]using(hB.parts _ (mem_of_blk h1)).1,?_⟩;have h2:=ins_le (F:=putF G a b) (i:=j) (by rw[put_len hb];exact hj);rw[put_ins ha hb hab,put_blk hb hj]at h2;omega
 · obtain⟨j,hj,rfl⟩:=hm x hx
   obtain⟨q,hq,rfl⟩:=List.mem_map.1 hp;have:=hB.pairs _ (mem_of_blk (up_lt hb hj)) q hq;exact⟨this.1,by simpa[mphi]using this.2⟩
 · obtain⟨j,hj,rfl⟩:=hm x hx
   change y∈(if up b j=a then(G.blk a).insts++(G.blk b).insts else(G.blk (up b j)).insts)at hy;split at hy
   · rcases List.mem_append.1 hy with hy|hy
     · exact hB.args _ (mem_of_blk ha) y hy
     · exact hB.args _ (mem_of_blk hb) y hy
   · exact hB.args _ (mem_of_blk (up_lt hb hj)) y hy
theorem StG.put{H G:PFunc}{a b:Nat}(h:StG H G)(hf:fol G a b=true):StG H (putF G a b)∧(putF G a b).blocks.length<G.blocks.length:=by
 obtain⟨ha,hb,-,-,hab,-,-⟩:=fol_parts hf;have h1:=h.ps.put hf;exact⟨⟨h1.1,put_bnd h.bnd h.ins hf,by rw[put_ins ha hb hab];exact h.ins⟩,h1.2⟩
structure StV (w wr:World) (G:PFunc) (v0 v1 v2:Value):Prop where
 bx:BoxAt wr w.heap.size #[v0,v1,v2] 26
 br:BoxAt wr (w.heap.size+1) #[.slice none 0 0,.slice none 0 0,.slice none 0 0] 26
 fn:FnT wr (.agg #[v0,v1,v2]) G
 hb:Below w.heap.size w wr
theorem StV.below{w wr w':World}{G:PFunc}{v0 v1 v2:Value}(h:StV w wr G v0 v1 v2)(hb:Below wr.heap.size wr w'):StV w w' G v0 v1 v2:=
 ⟨h.bx.below hb h.bx.lt,h.br.below hb h.br.lt,h.fn.below hb,h.hb.trans (hb.mono h.hb.size)⟩
theorem StV.put{w wr w':World}{G G':PFunc}{v0 v1 v2 u0 u1 u2:Value}(h:StV w wr G v0 v1 v2)(hb:Below wr.heap.size wr w')(hf:FnT w' (.agg #[u0,u1,u2]) G') :
 StV w (((w'.setCell ⟨w.heap.size,0,none⟩ u0).setCell ⟨w.heap.size,1,none⟩ u1).setCell ⟨w.heap.size,2,none⟩ u2) G' u0 u1 u2:=by
 have h1:=h.bx.below hb h.bx.lt;have h2:=h.br.below hb h.br.lt;refine⟨h1.set3,((h2.other (p:=⟨w.heap.size,0,none⟩) ZS _).other (p:=⟨w.heap.size,1,none⟩) ZS _).other (p:=⟨w.heap.size,2,none⟩) ZS _,?_,?_⟩
 · exact hf.kt (((KT.refl.setCell h1 (by simp[N5]) _).setCell (h1.set 0 _) (by simp[N5]) _).setCell ((h1.set 0 _).set 1 _) (by simp[N5]) _)
 · exact(((h.hb.trans (hb.mono h.hb.size)).setCell (p:=⟨w.heap.size,0,none⟩) (Nr _) _).setCell (p:=⟨w.heap.size,1,none⟩) (Nr _) _).setCell (p:=⟨w.heap.size,2,none⟩) (Nr _) _
theorem fol_out{G:PFunc}{a b:Nat}(h:¬b<G.blocks.length):fol G a b=false:=by
 cases e:fol G a b
 · rfl
 · exact absurd (fol_parts e).2.1 h
theorem fol_outa{G:PFunc}{a b:Nat}(h:¬a<G.blocks.length):fol G a b=false:=by
 cases e:fol G a b
 · rfl
 · exact absurd (fol_parts e).1 h
def RetSt(H:PFunc)(e:Ending)(w':World):Prop:=∃gv G,e=.returned gv∧FnV w' w'.heap.size gv G∧IsT H G
set_option maxHeartbeats 8000000 in
theorem refStraight_calls{W w:World}{fv:Value}{F:PFunc}(hF:FnV W W.heap.size fv F)(hW:Below W.heap.size W w)(hN:Bnd F)(hT:typedP F=true)(hJ:joinedB F=true) :
 Calls Tryz.prog 18 #[fv] w fun e w'=>RetSt (prF F) e w'∧Below w.heap.size w w':=by
 have hWs:=hW.size;have hpr:=fun(w':World) (h:Below W.heap.size W w')=>refPruneT_calls hF h hN hT
 obtain⟨hPT,hPJ⟩:=joined_pr hT hJ;obtain⟨n1,n2⟩:=shaped_count (typed_shaped hPT);have hst:StG (prF F) (prF F):=⟨PutS.refl (typed_rk hPT (pr_all hT hPT)) (typed_rg hPT) n1,bnd_pr hN,insN_le hPT⟩;have HST:=Lh hst;obtain⟨A0,c0,A1,c1,A2,c2,rfl,l0,l1,l2,-,-,-,-,-,-⟩:=id hF.open_;unfold Len at *;generalize prF F=H at hpr n1 n2 HST ⊢;clear hF hN hT hJ hPT hPJ hst;obtain⟨w3,hw3⟩:∃w3:World,w3=(w.alloc (.cells #[.slice A0 F.vars.length c0,.slice A1 F.params.length c1,.slice A2 F.blocks.length c2] 26)).alloc (.cells #[.slice none 0 0,.slice none 0 0,.slice none 0 0] 26):=⟨_,rfl⟩;have hb3:Below w.heap.size w w3:=by rw[hw3];exact BL
 have x0:BoxAt w3 w.heap.size #[.slice A0 F.vars.length c0,.slice A1 F.params.length c1,.slice A2 F.blocks.length c2] 26:=by rw[hw3];exact(BoxAt.new _ _ _).alloc _
 have x1:BoxAt w3 (w.heap.size+1) #[.slice none 0 0,.slice none 0 0,.slice none 0 0] 26:=by
  rw[hw3];have:=BoxAt.new (w.alloc (.cells #[.slice A0 F.vars.length c0,.slice A1 F.params.length c1,.slice A2 F.blocks.length c2] 26)) #[.slice none 0 0,.slice none 0 0,.slice none 0 0] 26;simpa using this
 have hW3:=hW.trans (hb3.mono hWs);go_enter Tryz.func18,Tryz.ntmps18
 go_upto_region 2 with(go_at_call 44;rw[← hw3];refine(hpr _ hW3).mono ?_;rintro e w5 ⟨gv,rfl,hG,hb5⟩;obtain⟨E0,e0,E1,e1,E2,e2,rfl,-⟩:=id hG.fn.open_;have u0:=x0.below hb5 x0.lt;have v0:=u0.cell 0;have v1:=u0.cell 1;have v2:=u0.cell 2;have w0:=u0.frozen 0;have w1:=u0.frozen 1;have w2:=u0.frozen 2;have vl:=u0.lt;simp at v0 v1 v2)
 obtain⟨w6,hw6⟩:∃w6:World,w6=((w5.setCell ⟨w.heap.size,0,none⟩ (.slice E0 H.vars.length e0)).setCell ⟨w.heap.size,1,none⟩ (.slice E1 H.params.length e1)).setCell ⟨w.heap.size,2,none⟩ (.slice E2 H.blocks.length e2):=⟨_,rfl⟩
 go_loud (rw[← hw6])
 have HV6:=Lh (show StV w w6 H (.slice E0 H.vars.length e0) (.slice E1 H.params.length e1) (.slice E2 H.blocks.length e2) by
  rw[hw6];refine⟨u0.set3,(((x1.below hb5 x1.lt).other (p:=⟨w.heap.size,0,none⟩) ZS _).other (p:=⟨w.heap.size,1,none⟩) ZS _).other (p:=⟨w.heap.size,2,none⟩) ZS _,?_,?_⟩
  · exact hG.kt (((KT.refl.setCell u0 (by simp[N5]) _).setCell (u0.set 0 _) (by simp[N5]) _).setCell ((u0.set 0 _).set 1 _) (by simp[N5]) _)
  · exact(((hb3.trans (hb5.mono hb3.size)).setCell (p:=⟨w.heap.size,0,none⟩) (Nr _) _).setCell (p:=⟨w.heap.size,1,none⟩) (Nr _) _).setCell (p:=⟨w.heap.size,2,none⟩) (Nr _) _)
 clear hw6 hw3 u0 v0 v1 v2 w0 w1 w2 vl hG hb5 x0 x1 hpr hW3 hb3;go_wp2_with fail
 go_loopg[3] (H.blocks.length+1) (fun gk s wr=>∃(th:Bool) (G:PFunc) (v0 v1 v2:Value),s=.bool th∧Hid (StG H G∧G.blocks.length+th.toNat≤gk∧(th=false→∀a b,fol G a b=false))∧StV w wr G v0 v1 v2)
 case atStart=>exact⟨true,H,_,_,_,rfl,⟨HST.out,Nr _,fun h=>by cases h⟩,HV6.out⟩
 case round=>as_aux_lemma=>
  clear HV6;obtain⟨th,G,v0,v1,v2,rfl,HG,hV⟩:=hrel;obtain⟨E0,e0,E1,e1,E2,e2,e9,-,-,g2,-⟩:=id hV.fn.fn.open_;simp only[Value.agg.injEq,Array.mk.injEq,List.cons.injEq,and_true]at e9;obtain⟨rfl,rfl,rfl⟩:=e9;unfold Len at g2;have q0:=hV.bx.cell 0;have q1:=hV.bx.cell 1;have q2:=hV.bx.cell 2;have ql:=hV.bx.lt;simp at q0 q1 q2;cases th
  · as_aux_lemma=>
    have r0:=hV.br.cell 0;have r1:=hV.br.cell 1;have r2:=hV.br.cell 2;have f0:=hV.br.frozen 0;have f1:=hV.br.frozen 1;have f2:=hV.br.frozen 2;have rl:=hV.br.lt;simp at r0 r1 r2;have HV:=Lh hV;clear hV;go_wp2;have hz:=HV.out.br.set3 (a:=.slice E0 G.vars.length e0) (b:=.slice E1 G.params.length e1) (c:=.slice E2 G.blocks.length e2);have z0:=hz.cell 0;have z1:=hz.cell 1;have z2:=hz.cell 2;simp only[List.getElem?_toArray,List.getElem?_cons_zero,List.getElem?_cons_succ]at z0 z1 z2;have hfn:=HV.out.fn.kt (((KT.refl.setCell HV.out.br (by simp[N5]) (j:=0) (.slice E0 G.vars.length e0)).setCell (HV.out.br.set 0 _) (by simp[N5]) (j:=1) (.slice E1 G.params.length e1)).setCell ((HV.out.br.set 0 _).set 1 _) (by simp[N5]) (j:=2) (.slice E2 G.blocks.length e2));have hBz:=((HV.out.hb.setCell (p:=⟨w.heap.size+1,0,none⟩) ZS (.slice E0 G.vars.length e0)).setCell (p:=⟨w.heap.size+1,1,none⟩) ZS (.slice E1 G.params.length e1)).setCell (p:=⟨w.heap.size+1,2,none⟩) ZS (.slice E2 G.blocks.length e2);exact bodyPost_ret (v:=.agg #[.slice E0 G.vars.length e0,.slice E1 G.params.length e1,.slice E2 G.blocks.length e2]) (by simp[results,Tryz.results18,go_sem,z0,z1,z2]) rfl ⟨⟨_,G,rfl,hfn.fn,HG.out.1.ps.fin (by first|exact HG.out.2.2 rfl|exact HG.out.2.2 trivial)⟩,hBz⟩
  · as_aux_lemma=>
    have hgl:=HG.out.1.ps.len;have HV:=Lh hV;clear hV;go_wp2_with fail
    go_loopw[3,4] (fun s3 s4 wr=>∃(th:Bool) (a:Int) (G':PFunc) (v0 v1 v2:Value),s3=.bool th∧s4=.int .i64 a∧Hid (StG H G'∧-1≤a∧a<100000∧(th=false→G'=G∧a<G.blocks.length∧∀(x y:Nat),a<x→fol G x y=false)∧(th=true→G'.blocks.length<G.blocks.length))∧StV w wr G' v0 v1 v2) (fun _ s _=>(intOf s+1).toNat)
    case atStart=>exact⟨false,_,G,_,_,_,rfl,by first|rfl|go_num,⟨HG.out.1,by have:=HG.out.1.ps.pos;omega,by have:=HG.out.1.bnd.blocks;omega,fun _=>⟨rfl,ZO,fun x y hx=>fol_outa ZO⟩,(fun h=>by cases h)⟩,HV.out⟩
    case round=>as_aux_lemma=>
     clear HV q0 q1 q2 ql;obtain⟨th,a,G',v0,v1,v2,rfl,rfl,HI,hV⟩:=hrel;obtain⟨D0,d0,D1,d1,D2,d2,e9,-,-,g3,-⟩:=id hV.fn.fn.open_;simp only[Value.agg.injEq,Array.mk.injEq,List.cons.injEq,and_true]at e9;obtain⟨rfl,rfl,rfl⟩:=e9;unfold Len at g3;obtain⟨-,ha0,ha1,-,-⟩:=HI.out;have HV:=Lh hV;cases th
     · as_aux_lemma=>
       obtain⟨-,-,-,h3,-⟩:=HI.out;obtain⟨rfl,ha2,h4⟩:=h3 rfl;have H4:=Lh h4;clear h3 h4
       by_cases han:0≤a
       · as_aux_lemma=>
         obtain⟨x,rfl⟩:∃x:Nat,a=x:=⟨a.toNat,ZO⟩;have hxl:x<G'.blocks.length:=by omega
         have hge:decide ((x:Int)≥0)=true:=decide_eq_true han;have q0:=hV.bx.cell 0;have q1:=hV.bx.cell 1;have q2:=hV.bx.cell 2;have ql:=hV.bx.lt;simp at q0 q1 q2;clear hV;go_wp2_with fail;clear q0 q1 q2 ql
         go_loopw[3,24] (fun s3 s wr=>∃b:Nat,s3=.bool false∧s=.int .i64 b∧b≤G'.blocks.length∧Hid (∀y,y<b→fol G' x y=false)∧StV w wr G' (.slice D0 G'.vars.length d0) (.slice D1 G'.params.length d1) (.slice D2 G'.blocks.length d2)) (fun _ s _=>G'.blocks.length-(intOf s).toNat)
         case atStart=>exact⟨0,rfl,rfl,Nz _,fun y hy=>absurd hy (Nat.not_lt_zero _),HV.out⟩
         case round=>as_aux_lemma=>
          clear HV;obtain⟨b,rfl,rfl,hb,HNO,hV⟩:=hrel
          by_cases hlt:b<G'.blocks.length
          · as_aux_lemma=>
            have hfo:=refFollows_calls hV.fn.fn (Br _ _) hxl hlt;have q0:=hV.bx.cell 0;have q1:=hV.bx.cell 1;have q2:=hV.bx.cell 2;have ql:=hV.bx.lt;simp at q0 q1 q2;have HV:=Lh hV;clear hV;cases hf:fol G' x b
            · as_aux_lemma=>
              rw[hf]at hfo;have HF:=Lh hf;clear hf;go_wp2_with(go_at_call 14;refine hfo.mono ?_;rintro e w9 ⟨rfl,hb9⟩);go_roundw
              case rel=>exact⟨b+1,rfl,ZN,hlt,fun y hy=>by
               by_cases e:y=b
               · rw[e];exact HF.out
               · exact HNO y ZO,HV.out.below hb9⟩
              case measure=>simp[intOf];omega
            · as_aux_lemma=>
              rw[hf]at hfo;have hsp:=HI.out.1.put hf;have HSP:=Lh hsp;have HPT:=Lh (fun(w':World) (hFT:FnT w' (.agg #[.slice D0 G'.vars.length d0,.slice D1 G'.params.length d1,.slice D2 G'.blocks.length d2]) G')=>refPut_calls hFT (Br _ _) hf HI.out.1.ps.rg HI.out.1.bnd hsp.1.bnd);clear hf hsp
              go_upto_region 12 with(go_at_call 14;refine hfo.mono ?_;rintro e w9 ⟨rfl,hb9⟩)
              have hV9:=HV.out.below hb9;clear q0 q1 q2 ql hfo;have q0:=hV9.bx.cell 0;have q1:=hV9.bx.cell 1;have q2:=hV9.bx.cell 2;have ql:=hV9.bx.lt;simp at q0 q1 q2;have hpt:=HPT.out w9 hV9.fn;have HV9:=Lh hV9;clear hV9 hb9
              go_upto_region 13 with(go_at_call 45;refine hpt.mono ?_;rintro e w8 ⟨⟨gv,rfl,hG8⟩,hb8⟩;obtain⟨C0,y0,C1,y1,C2,y2,rfl,-⟩:=id hG8.fn.open_;have u0:=HV9.out.bx.below hb8 HV9.out.bx.lt;have t0:=u0.cell 0;have t1:=u0.cell 1;have t2:=u0.cell 2;have f0:=u0.frozen 0;have f1:=u0.frozen 1;have f2:=u0.frozen 2;have tl:=u0.lt;simp at t0 t1 t2)
              have hVz:=HV9.out.put hb8 hG8;have HVZ:=Lh hVz;clear hVz u0 hG8 hb8 hpt;go_wp2;go_roundw
              case rel=>exact⟨true,(x:Int)-1,putF G' x b,_,_,_,rfl,ZN,⟨HSP.out.1,ZO,ZO,(fun h=>by cases h),fun _=>HSP.out.2⟩,HVZ.out⟩
              case measure=>first|(simp[intOf];done)|(simp[intOf];omega)
          · as_aux_lemma=>
            obtain rfl:b=G'.blocks.length:=by omega
            have HV:=Lh hV;clear hV;go_wp2;go_roundw
            case rel=>
             refine⟨false,(x:Int)-1,G',_,_,_,rfl,ZN,⟨HI.out.1,ZO,ZO,fun _=>⟨rfl,ZO,fun u y hu=>?_⟩,(fun h=>by cases h)⟩,HV.out⟩
             by_cases e:u=x
             · rw[e]
               by_cases hy:y<G'.blocks.length
               · exact HNO y hy
               · exact fol_out hy
             · exact H4.out u y ZO
            case measure=>first|(simp[intOf];done)|(simp[intOf];omega)
       · as_aux_lemma=>
         have hlt0:decide (a≥0)=false:=decide_eq_false han;clear hV;go_wp2
         go_roundg (gk-1)
         case measure=>have:=HG.out.2.1;simp at this;omega
         case rel=>exact⟨false,G',_,_,_,rfl,⟨HI.out.1,by have:=HG.out.2.1;simp at this ⊢;omega,fun _ x y=>H4.out x y ZO⟩,HV.out⟩
     · as_aux_lemma=>
       have h5:=HI.out.2.2.2.2;have H5:=Lh (show G'.blocks.length<G.blocks.length by first|exact h5 rfl|exact h5 trivial|exact h5);clear hV h5
       by_cases han:0≤a
       · as_aux_lemma=>
         have hge:decide (a≥0)=true:=decide_eq_true han;go_wp2
         go_roundg (gk-1)
         case measure=>have:=HG.out.2.1;simp at this;omega
         case rel=>exact⟨true,G',_,_,_,rfl,⟨HI.out.1,by have:=HG.out.2.1;have:=H5.out;simp at *;omega,(fun h=>by cases h)⟩,HV.out⟩
       · as_aux_lemma=>
         have hge:decide (a≥0)=false:=decide_eq_false han;go_wp2
         go_roundg (gk-1)
         case measure=>have:=HG.out.2.1;simp at this;omega
         case rel=>exact⟨true,G',_,_,_,rfl,⟨HI.out.1,by have:=HG.out.2.1;have:=H5.out;simp at *;omega,(fun h=>by cases h)⟩,HV.out⟩
end Go.Proofs.YthhjlbflpjhahaaGreatDoor
