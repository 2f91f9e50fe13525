/- print.Copy: a program once more, in memory of its own. -/
import Derived.Test.YtjlclkcmfokobaaGreatDoorMemTZ
import Derived.Deep.DeepCutAuto
import Derived.Deep.CutBlock
namespace Go.Proofs.YtjlclkcmfokobaaGreatDoor
open Go.RowKit
set_option maxRecDepth 100000
set_option maxHeartbeats 40000000 in
theorem YoE{W w:World}{fv:Value}{F:PFunc}(hF:FnV W W.heap.size fv F)(hW:Below W.heap.size W w)(hN:Bnd F) :
 Calls Tryz.prog 38 #[fv] w fun e w'=>∃vv vp vb ps B2,e=.returned (.agg #[vv,vp,vb])∧RRow w' w.heap.size 50 2 Ybr vv F.vars∧w'.ownsRow w.heap.size 3 1 vp F.params.length (F.params.map (Value.int .i64))∧
  ps.map XBlk.b=F.blocks∧RRow w' B2 41 7 (CBS w' B2) vb ps∧ps.Pairwise BeforeX∧(w.heap.size≤B2∧∀b,vp.ownBlock=some b→b<B2)∧Below w.heap.size w w':=by
 obtain⟨A0,c0,A1,c1,A2,c2,rfl,l0,l1,l2,-,-,-,r0,r1,r2⟩:=id hF.open_;unfold Len at *;have hWs:=hW.size;have b0:=hN.vars;have b1:=hN.params;have b2:=hN.blocks;have hb0:=(Br w.heap.size w).alloc (Nr _) (.cells #[.slice A0 F.vars.length c0,.slice A1 F.params.length c1,.slice A2 F.blocks.length c2] 26);go_enter Tryz.func38,Tryz.ntmps38
 go_upto_region 1 with fail
 go_cut[3] (fun s3 wx=>∃g v0 v1,s3=.pointer (some ⟨g,0,none⟩)∧w.heap.size+2≤g∧BoxAt wx g #[v0,v1,.slice none 0 0] 26∧RRow wx (w.heap.size+2) 50 2 Ybr v0 F.vars∧wx.ownsRow (w.heap.size+2) 3 1 v1 F.params.length (F.params.map (Value.int .i64))∧
  Below (w.heap.size+2) ((w.alloc (.cells #[.slice A0 F.vars.length c0,.slice A1 F.params.length c1,.slice A2 F.blocks.length c2] 26)).alloc (.cells #[.slice none 0 0,.slice none 0 0,.slice none 0 0] 26)) wx)
 case first=>as_aux_lemma=>
  obtain⟨S0,hS0⟩:∃S0:World→Prop,S0=fun w'=>w'.cell? ⟨w.heap.size,0,none⟩=some (.slice A0 F.vars.length c0)∧w'.cell? ⟨w.heap.size,1,none⟩=some (.slice A1 F.params.length c1)∧Below (w.heap.size+2) ((w.alloc (.cells #[.slice A0 F.vars.length c0,.slice A1 F.params.length c1,.slice A2 F.blocks.length c2] 26)).alloc (.cells #[.slice none 0 0,.slice none 0 0,.slice none 0 0] 26)) w'∧w.heap.size+1<w'.heap.size:=⟨_,rfl⟩
  have HS0:=Lh hS0;clear hS0;have k0:=fun xw=>(WS.at HS0 xw).1
  have k1:=fun xw=>(WS.at HS0 xw).2.1
  have k2:=fun xw=>(WS.at HS0 xw).2.2.1
  have k3:=fun xw=>(WS.at HS0 xw).2.2.2
  refine Yb0 (S:=S0) [8] ZK ?hS (fun hSc hcl=>?_)
  case hS=>
   rw[HS0.out];exact⟨ZI,ZI,BL,ZJ⟩
  have hne0:Nonempty (WS S0):=⟨⟨_,hSc⟩⟩;have hneT:Nonempty (WS (fun _=>True)):=match hne0 with|⟨x⟩=>⟨⟨x.w,trivial⟩⟩
  refine Ya5 [(0,0),(1,0),(3,0),(4,0)] 5 rfl ZK (fun _ _ _ _ _ h=>h) hSc hcl ?_
  all_goals
   (try simp only[List.map_cons,List.map_nil,Ld,Le])
   repeat
    first
    |((with_reducible refine Ya6 ?_ ?_);exact rfl;dsimp only;go_big_quiet_step (fail);(try with_reducible refine wpQuiet_nil ?_);(try dsimp only))
    |((with_reducible refine Ya7 ?_ ?_);exact rfl;dsimp only;go_big_quiet_step (fail);(try with_reducible refine wpQuiet_nil ?_);(try dsimp only))
    |((with_reducible refine Ybe ?_ ?_ (fun K hK=>?_))
      exact rfl;exact rfl;dsimp only;go_simp;(try go_wp2_with(first|(go_at_call 78;refine(Yex (r0.moveV BL) ZO).mono ?_;rintro e w7 ⟨v7,rfl,hV7,hb7⟩;obtain⟨A7,c7,hv7⟩:=hV7.form;subst hv7;have hb9:=hb7;obtain⟨hc9,hf9⟩:=Ya hb9;have hz9:=hb9.size;(try simp at hz9);(try(have z7:=BoxAt.below (BoxAt.drew (BoxAt.new _ _ _)) hb7 ZS));(try simp at z7))|(go_at_call 79;refine(Ycz (r1.move BL) ZO).mono ?_;rintro e w8 ⟨v8,rfl,hI8,hb8⟩;obtain⟨A8,c8,hv8⟩:=Yp hI8;subst hv8;have hb9:=hb8;obtain⟨hc9,hf9⟩:=Ya hb9;have hz9:=hb9.size;(try simp at hz9);(try(have z8:=z7.below hb8 z7.lt;have z80:=z8.cell 0;have z81:=z8.cell 1;have z82:=z8.cell 2;have y80:=z8.frozen 0;have y81:=z8.frozen 1;have y82:=z8.frozen 2;have z8l:=z8.lt;simp at z80 z81 z82)))));refine hK.out _ _ ?hS (fun hSc=>?_)
      case hS=>
       first
       |exact hSc
       |(rw[HS0.out]at hSc ⊢;obtain⟨p0,p1,p2,p3⟩:=hSc;exact⟨ZC0,ZC1,(by first|exact p2.trans (hb9.mono (by have:=p2.size;first|omega|(simp at this ⊢;omega)))|exact BL),ZT3⟩)
       |(rw[HS0.out]at hSc ⊢;obtain⟨p0,p1,p2,p3⟩:=hSc;exact⟨ZC,ZC,BL,ZT⟩)
      clear hK K)
   (try(refine Ya8 ?_;intro hSc hcl))
  refine Yfx 2 7 4 rfl ZK hSc hcl ?_ ?_
  all_goals
   (try simp only[Ld,Le])
   repeat
    first
    |((with_reducible refine Ya6 ?_ ?_);exact rfl;dsimp only;go_big_quiet_step (fail);(try with_reducible refine wpQuiet_nil ?_);(try dsimp only))
    |((with_reducible refine Ya7 ?_ ?_);exact rfl;dsimp only;go_big_quiet_step (fail);(try with_reducible refine wpQuiet_nil ?_);(try dsimp only))
    |((with_reducible refine Ybe ?_ ?_ (fun K hK=>?_))
      exact rfl;exact rfl;dsimp only;go_simp;(try go_wp2_with(first|(go_at_call 78;refine(Yex (r0.moveV BL) ZO).mono ?_;rintro e w7 ⟨v7,rfl,hV7,hb7⟩;obtain⟨A7,c7,hv7⟩:=hV7.form;subst hv7;have hb9:=hb7;obtain⟨hc9,hf9⟩:=Ya hb9;have hz9:=hb9.size;(try simp at hz9);(try(have z7:=BoxAt.below (BoxAt.drew (BoxAt.new _ _ _)) hb7 ZS));(try simp at z7))|(go_at_call 79;refine(Ycz (r1.move BL) ZO).mono ?_;rintro e w8 ⟨v8,rfl,hI8,hb8⟩;obtain⟨A8,c8,hv8⟩:=Yp hI8;subst hv8;have hb9:=hb8;obtain⟨hc9,hf9⟩:=Ya hb9;have hz9:=hb9.size;(try simp at hz9);(try(have z8:=z7.below hb8 z7.lt;have z80:=z8.cell 0;have z81:=z8.cell 1;have z82:=z8.cell 2;have y80:=z8.frozen 0;have y81:=z8.frozen 1;have y82:=z8.frozen 2;have z8l:=z8.lt;simp at z80 z81 z82)))));refine hK.out _ _ ?hS (fun hSc=>?_)
      case hS=>
       first
       |exact hSc
       |(rw[HS0.out]at hSc ⊢;obtain⟨p0,p1,p2,p3⟩:=hSc;exact⟨ZC0,ZC1,(by first|exact p2.trans (hb9.mono (by have:=p2.size;first|omega|(simp at this ⊢;omega)))|exact BL),ZT3⟩)
       |(rw[HS0.out]at hSc ⊢;obtain⟨p0,p1,p2,p3⟩:=hSc;exact⟨ZC,ZC,BL,ZT⟩)
      clear hK K)
   (try(refine Ya8 ?_;intro hSc hcl))
  refine Yfx 5 7 3 rfl ZK hSc hcl ?_ ?_
  rotate_left 2
  refine Ya5 [(2,1),(5,1),(6,0)] 1 rfl ZK (fun _ _ _ _ _ h=>h) hSc hcl ?_
  rotate_left
  all_goals
   (try simp only[List.map_cons,List.map_nil,Ld,Le])
   repeat
    first
    |((with_reducible refine Ya6 ?_ ?_);exact rfl;dsimp only;go_big_quiet_step (fail);(try with_reducible refine wpQuiet_nil ?_);(try dsimp only))
    |((with_reducible refine Ya7 ?_ ?_);exact rfl;dsimp only;go_big_quiet_step (fail);(try with_reducible refine wpQuiet_nil ?_);(try dsimp only))
    |((with_reducible refine Ybe ?_ ?_ (fun K hK=>?_))
      exact rfl;exact rfl;dsimp only;go_simp;(try go_wp2_with(first|(go_at_call 78;refine(Yex (r0.moveV BL) ZO).mono ?_;rintro e w7 ⟨v7,rfl,hV7,hb7⟩;obtain⟨A7,c7,hv7⟩:=hV7.form;subst hv7;have hb9:=hb7;obtain⟨hc9,hf9⟩:=Ya hb9;have hz9:=hb9.size;(try simp at hz9);(try(have z7:=BoxAt.below (BoxAt.drew (BoxAt.new _ _ _)) hb7 ZS));(try simp at z7))|(go_at_call 79;refine(Ycz (r1.move BL) ZO).mono ?_;rintro e w8 ⟨v8,rfl,hI8,hb8⟩;obtain⟨A8,c8,hv8⟩:=Yp hI8;subst hv8;have hb9:=hb8;obtain⟨hc9,hf9⟩:=Ya hb9;have hz9:=hb9.size;(try simp at hz9);(try(have z8:=z7.below hb8 z7.lt;have z80:=z8.cell 0;have z81:=z8.cell 1;have z82:=z8.cell 2;have y80:=z8.frozen 0;have y81:=z8.frozen 1;have y82:=z8.frozen 2;have z8l:=z8.lt;simp at z80 z81 z82)))));refine hK.out _ _ ?hS (fun hSc=>?_)
      case hS=>
       first
       |exact hSc
       |(rw[HS0.out]at hSc ⊢;obtain⟨p0,p1,p2,p3⟩:=hSc;exact⟨ZC0,ZC1,(by first|exact p2.trans (hb9.mono (by have:=p2.size;first|omega|(simp at this ⊢;omega)))|exact BL),ZT3⟩)
       |(rw[HS0.out]at hSc ⊢;obtain⟨p0,p1,p2,p3⟩:=hSc;exact⟨ZC,ZC,BL,ZT⟩)
      clear hK K)
   (try(refine Ya8 ?_;intro hSc hcl))
  refine Ya5 [(6,0),(7,1)] 1 rfl ZK (fun _ _ _ _ _ h=>h) hSc hcl ?_
  rotate_left
  refine Ya5 [(5,1),(6,0)] 1 rfl ZK (fun _ _ _ _ _ h=>h) hSc hcl ?_
  rotate_left
  rotate_left
  all_goals
   (try simp only[List.map_cons,List.map_nil,Ld,Le])
   repeat
    first
    |((with_reducible refine Ya6 ?_ ?_);exact rfl;dsimp only;go_big_quiet_step (fail);(try with_reducible refine wpQuiet_nil ?_);(try dsimp only))
    |((with_reducible refine Ya7 ?_ ?_);exact rfl;dsimp only;go_big_quiet_step (fail);(try with_reducible refine wpQuiet_nil ?_);(try dsimp only))
    |((with_reducible refine Ybe ?_ ?_ (fun K hK=>?_))
      exact rfl;exact rfl;dsimp only;go_simp;(try go_wp2_with(first|(go_at_call 78;refine(Yex (r0.moveV BL) ZO).mono ?_;rintro e w7 ⟨v7,rfl,hV7,hb7⟩;obtain⟨A7,c7,hv7⟩:=hV7.form;subst hv7;have hb9:=hb7;obtain⟨hc9,hf9⟩:=Ya hb9;have hz9:=hb9.size;(try simp at hz9);(try(have z7:=BoxAt.below (BoxAt.drew (BoxAt.new _ _ _)) hb7 ZS));(try simp at z7))|(go_at_call 79;refine(Ycz (r1.move BL) ZO).mono ?_;rintro e w8 ⟨v8,rfl,hI8,hb8⟩;obtain⟨A8,c8,hv8⟩:=Yp hI8;subst hv8;have hb9:=hb8;obtain⟨hc9,hf9⟩:=Ya hb9;have hz9:=hb9.size;(try simp at hz9);(try(have z8:=z7.below hb8 z7.lt;have z80:=z8.cell 0;have z81:=z8.cell 1;have z82:=z8.cell 2;have y80:=z8.frozen 0;have y81:=z8.frozen 1;have y82:=z8.frozen 2;have z8l:=z8.lt;simp at z80 z81 z82)))));refine hK.out _ _ ?hS (fun hSc=>?_)
      case hS=>
       first
       |exact hSc
       |(rw[HS0.out]at hSc ⊢;obtain⟨p0,p1,p2,p3⟩:=hSc;exact⟨ZC0,ZC1,(by first|exact p2.trans (hb9.mono (by have:=p2.size;first|omega|(simp at this ⊢;omega)))|exact BL),ZT3⟩)
       |(rw[HS0.out]at hSc ⊢;obtain⟨p0,p1,p2,p3⟩:=hSc;exact⟨ZC,ZC,BL,ZT⟩)
      clear hK K)
   (try(refine Ya8 ?_;intro hSc hcl))
  all_goals
   refine Yb1 [8] rfl ZK ?_;simp only[List.map_cons,List.map_nil,Ld,Le];rw[HS0.out]at hSc;obtain⟨p0,p1,p2,p3⟩:=hSc;clear hne0 hneT hcl HS0 k0 k1 k2 k3
  · go_wp2_with fail
    go_meet
    refine⟨_,_,_,rfl,ZO,BoxAt.new _ _ _,(hV7.rebase ZS).move BL (fun _ _ h=>h),Ycj (Yu hI8 BL) ZT,BL⟩
  · go_wp2_with fail
    go_meet
    have z9:=BoxAt.below (BoxAt.new _ _ _) hb8 ZS;refine⟨_,_,_,rfl,ZO,z9.set3,(hV7.rebase ZS).turn (fun k hk=>(Yek (Nat.ne_of_lt (hV7.lt hk).2)).trans ((((Br _ _).alloc (Nr _) _).trans (hb8.mono ZS):Below w7.heap.size w7 w8).block k (hV7.lt hk).2)) (fun _ _ h=>h),Ycj (Yel hI8 (fun k hk=>Yek (by have h8:=(YG hI8 hk).1;simp at h8;omega))) ZX,BL⟩
  · go_wp2_with fail
    go_meet
    refine⟨_,_,_,rfl,ZT,z8.set3,(hV7.rebase ZS).turn (fun k hk=>(Yek (by have h7:=(hV7.lt hk).1;simp at h7;omega)).trans ((BL:Below w7.heap.size w7 w8).block k (hV7.lt hk).2)) (fun _ _ h=>h),Ycj (Yel hI8 (fun k hk=>Yek (by have h8:=(YG hI8 hk).1;have:=z7.lt;omega))) ZO,BL⟩
 case rest=>as_aux_lemma=>
  obtain⟨g,v0,v1,rfl,hg2,hbx,hV,hI,hbc⟩:=hcut;obtain⟨A7,c7,rfl⟩:=hV.form;obtain⟨A8,c8,rfl⟩:=Yp hI;obtain⟨B2,hBl,hBu,hB2⟩:∃B2,w.heap.size+2≤B2∧B2≤wc.heap.size∧∀b,(Value.slice A8 F.params.length c8).ownBlock=some b→b<B2:=⟨wc.heap.size,by have:=hbc.size;simp at this;omega,Nr _,fun b hb=>(YG hI hb).2⟩;have HB2:=Lh hB2;clear hB2;have hgl:=hbx.lt;have q0:=hbx.cell 0;have hf2:=(Ycx (w:=w) (cs:=#[.slice A0 F.vars.length c0,.slice A1 F.params.length c1,.slice A2 F.blocks.length c2]) (t:=26) (w':=wc) (((Br _ _).alloc ZS _).trans (hbc.mono ZS))).2 2;have hfl:w.heap.size<wc.heap.size:=by omega
  simp at hf2 q0;go_wp2_with fail;clear q0
  go_loopw[21] (fun i wr=>∃(n:Nat) (vb:Value) (ps:List XBlk),i=.int .i64 n∧n≤F.blocks.length∧ps.map XBlk.b=F.blocks.take n∧ps.Pairwise BeforeX∧g<wr.heap.size∧
   BoxAt wr g #[.slice A7 F.vars.length c7,.slice A8 F.params.length c8,vb] 26∧RRow wr (w.heap.size+2) 50 2 Ybr (.slice A7 F.vars.length c7) F.vars∧
   wr.ownsRow (w.heap.size+2) 3 1 (.slice A8 F.params.length c8) F.params.length (F.params.map (Value.int .i64))∧B2≤wr.heap.size∧RRow wr B2 41 7 (CBS wr B2) vb ps∧
   Below (w.heap.size+2) ((w.alloc (.cells #[.slice A0 F.vars.length c0,.slice A1 F.params.length c1,.slice A2 F.blocks.length c2] 26)).alloc (.cells #[.slice none 0 0,.slice none 0 0,.slice none 0 0] 26)) wr) (fun i _=>F.blocks.length-(intOf i).toNat)
  case atStart=>exact⟨0,_,[],rfl,Nz _,ZS,List.Pairwise.nil,hgl,hbx,hV,hI,hBu,RRow.nil,hbc⟩
  case round=>as_aux_lemma=>
   clear hbx hV hI hf2 hbc hfl hgl;obtain⟨n,vb,ps,rfl,hn,hps,hpw,hgl,hbx,hV,hI,hBr2,hR,hbc⟩:=hrel;have hB:=hb0.trans ((((Br _ _).alloc ZS _).trans (hbc.mono ZS):Below (w.heap.size+1) (w.alloc (.cells #[.slice A0 F.vars.length c0,.slice A1 F.params.length c1,.slice A2 F.blocks.length c2] 26)) wr).mono (Nat.le_succ _));have hWr:Below W.heap.size W wr:=hW.trans (hB.mono hWs);obtain⟨Ab,cb,rfl⟩:=hR.form
   by_cases hlt:n<F.blocks.length
   · obtain⟨bb,off,A3,c3,A4,c4,rfl,hbb,hnz,hy0,hy1,hy2,hy3,hy4,hy5,hy6,l3,l4,k3,k4,r3,r4⟩:=r2.blk hWr hlt
     have hpn:=(hN.parts _ (Y4 hlt));obtain⟨wi,rfl⟩:∃wi:World,wi=wr:=⟨_,rfl⟩;go_wp2_with fail
     go_loopw[33] (fun i wr=>∃(k:Nat) (vph:Value) (es:List (PPhi×Value×Value)),i=.int .i64 k∧k≤(F.blk n).phis.length∧es.map Prod.fst=(F.blk n).phis.take k∧(rowsP es).Pairwise Apart∧BoxAt wr wi.heap.size (Yf8 F n A3 c3 A4 c4) 41∧
      BoxAt wr (wi.heap.size+1) #[.string (F.blk n).name,vph,.slice none 0 0,.int .i64 (F.blk n).term.kind,.int .i64 (F.blk n).term.var,.int .i64 (F.blk n).term.t0,.int .i64 (F.blk n).term.t1] 41∧
      RRow wr (wi.heap.size+2) 76 3 (CPhS wr (wi.heap.size+2)) vph es∧Below wi.heap.size wi wr) (fun i _=>(F.blk n).phis.length-(intOf i).toNat)
     case atStart=>
      refine⟨0,.slice none 0 0,[],rfl,Nz _,ZS,List.Pairwise.nil,?_,?_,RRow.nil,?_⟩
      · exact(BoxAt.new _ _ _).alloc _
      · have h:=BoxAt.new (wi.alloc (.cells (Yf8 F n A3 c3 A4 c4) 41)) #[.string (F.blk n).name,.slice none 0 0,.slice none 0 0,.int .i64 (F.blk n).term.kind,.int .i64 (F.blk n).term.var,.int .i64 (F.blk n).term.t0,.int .i64 (F.blk n).term.t1] 41
        rw[World.size_alloc]at h;exact h
      · exact((Br _ _).alloc (Nr _) _).alloc ZS _
     case round=>as_aux_lemma=>
      obtain⟨k,vph,es,rfl,hk,hes,hap,hbB,hbC,hP,hbi⟩:=hrel;have hel:es.length=k:=by have:=congrArg List.length hes;simpa[Nat.min_eq_left hk]using this
      have HEL:=Lh hel;have HES:=Lh hes;have HAP:=Lh hap;have hBr:Below w.heap.size w wr:=hB.trans (hbi.mono hB.size);have hWi:Below W.heap.size W wr:=hW.trans (hBr.mono hWs);obtain⟨Ap,cp,hv⟩:=hP.form;rw[hel]at hv;subst hv;clear hel hes hap;have hc1:=hbC.cell 1;simp at hc1;have hgC:=hbC.lt;have hob:=fun k' (hk':(Value.slice Ap k cp).ownBlock=some k')=>hP.lt hk'
      by_cases hkl:k<(F.blk n).phis.length
      ·
       obtain⟨bp,op,A5,c5,A6,c6,rfl,hbp,hp0,hp1,hp2,l5,l6,k5,k6,r5,r6⟩:=r3.phi hWi hkl;have hpl:=hN.pairs _ (Y4 hlt) _ (Ybo hkl);obtain⟨ws,rfl⟩:∃ws:World,ws=wr:=⟨_,rfl⟩;clear hy0 hy1 hy2 hy3 hy4 hy5 hy6;generalize hph:(F.blk n).phi k=ph at *;have HPH:=Lh hph;clear hph;go_wp2_with fail;obtain⟨S0,hS0⟩:∃S0:World→Prop,S0=fun w'=>w'.cell? ⟨ws.heap.size,0,none⟩=some (.int .i64 ph.dst)∧w'.cell? ⟨ws.heap.size,1,none⟩=some (.slice A5 ph.args.length c5)∧w'.cell? ⟨ws.heap.size,2,none⟩=some (.slice A6 ph.froms.length c6)∧w'.cell? ⟨wi.heap.size+1,1,none⟩=some (.slice Ap k cp)∧Below wi.heap.size wi w'∧ws.heap.size<w'.heap.size:=⟨_,rfl⟩
       have HS0:=Lh hS0;clear hS0;have k0:=fun xw=>(WS.at HS0 xw).1
       have k1:=fun xw=>(WS.at HS0 xw).2.1
       have k2:=fun xw=>(WS.at HS0 xw).2.2.1
       have k3:=fun xw=>(WS.at HS0 xw).2.2.2.1
       have k4:=fun xw=>(WS.at HS0 xw).2.2.2.2.1
       have k5:=fun xw=>(WS.at HS0 xw).2.2.2.2.2
       refine Yb0 (S:=S0) [12,13,14] ZK ?hS (fun hSc hcl=>?_)
       case hS=>
        rw[HS0.out];exact⟨ZI,ZI,ZI,ZI,BL,ZJ⟩
       have hne0:Nonempty (WS S0):=⟨⟨_,hSc⟩⟩;have hneT:Nonempty (WS (fun _=>True)):=match hne0 with|⟨x⟩=>⟨⟨x.w,trivial⟩⟩
       refine Ya5 [(0,0),(1,0),(2,0),(3,0),(4,0),(5,0),(7,0),(8,0),(6,1),(9,1),(10,0),(11,1)] 3 rfl ZK (fun _ _ _ _ _ h=>h) hSc hcl ?_
       all_goals
        (try simp only[List.map_cons,List.map_nil,Ld,Le])
        repeat
         first
         |((with_reducible refine Ya6 ?_ ?_);exact rfl;dsimp only;go_big_quiet_step (fail);(try with_reducible refine wpQuiet_nil ?_);(try dsimp only))
         |((with_reducible refine Ya7 ?_ ?_);exact rfl;dsimp only;go_big_quiet_step (fail);(try with_reducible refine wpQuiet_nil ?_);(try dsimp only))
         |((with_reducible refine Ybe ?_ ?_ (fun K hK=>?_))
           exact rfl;exact rfl;dsimp only;go_simp;(try go_wp2_with(go_at_call 79;refine(Ycz (B:=W.heap.size) ?hr ?hl).mono ?_;(case hr=>first|exact r5.moveB BL|exact r6.moveB BL);(case hl=>omega);first|(have hI7':=hI7;rintro e w8 ⟨v8,rfl,hI8,hb8⟩;obtain⟨A8',c8',hv8⟩:=Yp hI8;subst hv8;have hb9:=hb8;obtain⟨hc9,hf9⟩:=Ya hb9;have hz9:=hb9.size;(try simp at hz9))|(rintro e w7 ⟨v7,rfl,hI7,hb7⟩;obtain⟨A7',c7',hv7⟩:=Yp hI7;subst hv7;have hb9:=hb7;obtain⟨hc9,hf9⟩:=Ya hb9;have hz9:=hb9.size;(try simp at hz9))));refine hK.out _ _ ?hS (fun hSc=>?_)
           case hS=>
            first
            |exact hSc
            |(rw[HS0.out]at hSc ⊢;obtain⟨p0,p1,p2,p3,p4,p5⟩:=hSc;exact⟨ZC0,ZC1,ZC2,ZC3,(by first|exact p4.trans (hb9.mono (by have:=p4.size;first|omega|(simp at this ⊢;omega)))|exact BL),(by first|exact Nt p5 hb9.size|exact ZT)⟩)
            |(rw[HS0.out]at hSc ⊢;obtain⟨p0,p1,p2,p3,p4,p5⟩:=hSc;exact⟨ZC,ZC,ZC,ZC,BL,ZT⟩)
           clear hK K)
        (try(refine Ya8 ?_;intro hSc hcl))
       all_goals
        refine Yb1 [12,13,14] rfl ZK ?_;simp only[List.map_cons,List.map_nil,Ld,Le];rw[HS0.out]at hSc;obtain⟨p0,p1,p2,p3,p4,p5⟩:=hSc;clear hne0 hneT hcl HS0 k0 k1 k2 k3 k4 k5;go_wp2_with(at_builtin;have hB8:Below ws.heap.size ws w8:=(((Br _ _).alloc (Nr _) _).drew.trans (hb7.mono ZS)).trans (hb8.mono ZO);have hK8:KT [3,76] ws w8:=KT.of_below hB8;have hP8:=hP.kt hK8 ZS (fun _ _ h=>h.kt hK8 ZS);obtain⟨cells,hO8⟩:=hP8.own;rw[HEL.out]at hO8;refine YcA _ rfl _ _ 34 rfl (wi.heap.size+2) 76 3 56 Tryz.underlying34 Tryz.info76 rfl ZD _ k cells rfl hO8 _ rfl #[.int .i64 ph.dst,.slice A7' ph.args.length c7',.slice A8' ph.froms.length c8'] rfl rfl (by intro u hu;simp at hu;rcases hu with rfl|rfl|rfl<;>rfl) ZO ZD ZO ?_;intro v' w3 hown3 hg3 hfr3;obtain⟨Av,cv,hv3⟩:=Yp hown3;subst hv3;have hz3:=hg3.size;simp at hz3;have hbC3:=((hbC.below hB8 hgC).alloc _).grown hg3 (fun e=>by have:=(hob _ e).1;omega);have t3:=hbC3.cell 1;simp at t3;have t3f:=hbC3.frozen 1;have t3l:=hbC3.lt;have t4:=p4.grown hg3 ZX (fun k' hk'=>by have:=(hob _ hk').1;omega))
       go_roundw
       case rel=>
        have hgg:(w8.alloc (.cells #[.int .i64 ph.dst,.slice A7' ph.args.length c7',.slice A8' ph.froms.length c8'] 76)).grownBy w3 (Value.slice Ap k cp).ownBlock:=hg3;have hK3:KT [3] w8 (w3.setCell ⟨wi.heap.size+1,1,none⟩ (.slice Av (k+1) cv)):=((KT.refl.alloc _).grown (hO8.alloc _) ZS hgg).setCell hbC3 ZS _;have hlk:=HEL.out;have hpb:=Yey hP;have hz7:=hb7.size;have hz8:=hb8.size;have hzi:=hbi.size;have ha7:∀k',(Value.slice A7' ph.args.length c7').ownBlock=some k'→ws.heap.size≤k'∧k'<w7.heap.size:=fun k' h=>by have:=YG hI7 h;simp at this;omega
        have ha8:∀k',(Value.slice A8' ph.froms.length c8').ownBlock=some k'→w7.heap.size≤k':=fun k' h=>by have:=YG hI8 h;omega
        simp at hz7;refine⟨k+1,.slice Av (k+1) cv,es++[(ph,.slice A7' ph.args.length c7',.slice A8' ph.froms.length c8')],ZN,ZO,?_,?_,?_,?_,?_,t4.setCell ZS _⟩
        · rw[List.map_append,HES.out,YmV hkl,HPH.out];rfl
        · exact YmY HAP.out (fun u hu k' h1 h2=>by have:=(hpb u hu k' h1).2;have:=(ha7 k' h2).1;omega) (fun u hu k' h1 h2=>by have:=(hpb u hu k' h1).2;have:=ha8 k' h2;omega) (fun k' h1 h2=>by have:=(ha7 k' h1).2;have:=ha8 k' h2;omega)
        · have x1:=(hbB.below hB8 hbB.lt).alloc (.cells #[.int .i64 ph.dst,.slice A7' ph.args.length c7',.slice A8' ph.froms.length c8'] 76)
          have x2:=x1.grown hgg (fun e=>by have:=(hob _ e).1;omega);exact x2.other (p:=⟨wi.heap.size+1,1,none⟩) ZS (.slice Av (k+1) cv)
        · simpa using hbC3.set 1 (.slice Av (k+1) cv)
        · refine RRow.snoc (C:=CPhS w8 (wi.heap.size+2)) (cs:=[.int .i64 ph.dst,.slice A7' ph.args.length c7',.slice A8' ph.froms.length c8']) hP8 (by rw[hlk];exact hO8) ?_ rfl (fun _ _ h=>h.kt hK3 ZS) ?_
          · rw[hlk]
            exact ownsRow_setCell_other hown3 (fun e=>by have:=(YG hown3 e).1;simp at this) _
          · have hI7f:=YaT hI7 ((KT.of_below hb8).trans hK3) ZS
            have hI8f:=YaT hI8 hK3 ZS;exact⟨rfl,⟨Ycj hI7f ZX,Nat.le_trans hpl.1 ZD⟩,Ycj hI8f ZO,Nat.le_trans hpl.2 ZD⟩
       case measure=>simp[intOf];omega
      ·
       obtain rfl:k=(F.blk n).phis.length:=by omega
       have hes:=HES.out;rw[List.take_length]at hes;have HES2:=Lh hes;clear hes HES;have hc2:=hbB.cell 2;simp[Yf8]at hc2;have hbl:=hbB.lt;clear hy0 hy1 hy2 hy3 hy4 hy5 hy6 hc1 hgC hk hkl;go_wp2_with fail
       go_loopw[55] (fun i wr=>∃(m:Nat) (vin:Value) (is:List (PInst×Value)),i=.int .i64 m∧m≤(F.blk n).insts.length∧is.map Prod.fst=(F.blk n).insts.take m∧(rowsP es++rowsI is).Pairwise Apart∧
        BoxAt wr (wi.heap.size+1) #[.string (F.blk n).name,.slice Ap (F.blk n).phis.length cp,vin,.int .i64 (F.blk n).term.kind,.int .i64 (F.blk n).term.var,.int .i64 (F.blk n).term.t0,.int .i64 (F.blk n).term.t1] 41∧
        RRow wr (wi.heap.size+2) 76 3 (CPhS wr (wi.heap.size+2)) (.slice Ap (F.blk n).phis.length cp) es∧RRow wr (wi.heap.size+2) 44 4 (CInS wr (wi.heap.size+2)) vin is∧Below wi.heap.size wi wr) (fun i _=>(F.blk n).insts.length-(intOf i).toNat)
       case atStart=>exact⟨0,_,[],rfl,Nz _,ZS,by simpa[rowsI]using HAP.out,hbC,hP,RRow.nil,hbi⟩
       case round=>as_aux_lemma=>
        clear hbC hP hbi hc2 hbl hbB hBr hWi hob;obtain⟨m,vin,is,rfl,hm,his,hap,hbC,hP,hJ,hbi⟩:=hrel;have hil:is.length=m:=by have:=congrArg List.length his;simpa[Nat.min_eq_left hm]using this
        have HIL:=Lh hil;have HIS:=Lh his;have HAPX:=Lh hap;have hBr:Below w.heap.size w wr:=hB.trans (hbi.mono hB.size);have hWi:Below W.heap.size W wr:=hW.trans (hBr.mono hWs);obtain⟨Ai,ci,hv⟩:=hJ.form;rw[hil]at hv;subst hv;clear hil his hap;have hob:=fun k' (hk':(Value.slice Ai m ci).ownBlock=some k')=>hJ.lt hk'
        by_cases hml:m<(F.blk n).insts.length
        ·
         obtain⟨bx,ox,A5,c5,rfl,hbxl,hx0,hx1,hx2,hx3,l5,k5,r5⟩:=r4.inst hWi hml;have hal:=hN.args _ (Y4 hlt) _ (Yar hml);obtain⟨ws,rfl⟩:∃ws:World,ws=wr:=⟨_,rfl⟩;generalize hin:(F.blk n).inst m=xi at *;have HIN:=Lh hin;clear hin;have hgC:=hbC.lt
         go_upto_region 15 with(go_at_call 79;refine(Ycz (B:=W.heap.size) (r5.moveB BL) ZO).mono ?_;rintro e w7 ⟨v7,rfl,hI7,hb7⟩;obtain⟨A7',c7',hv7⟩:=Yp hI7;subst hv7;have hbX:=BoxAt.below (BoxAt.new _ _ _) hb7 ZS;have x2:=hbX.cell 2;have xf:=hbX.frozen 2;have xl:=hbX.lt;simp at x2)
         have hB7:Below ws.heap.size ws w7:=((Br _ _).alloc (Nr _) _).trans (hb7.mono ZS);have hz7:=hB7.size;have hbC7:=hbC.below hB7 hgC;have y2:=hbC7.cell 2;have yl:=hbC7.lt;simp at y2;have hbCx:=hbC7.other (p:=⟨ws.heap.size,2,none⟩) ZX (.slice A7' xi.args.length c7');have yx2:=hbCx.cell 2;have hbXx:=hbX.set 2 (.slice A7' xi.args.length c7');have xx0:=hbXx.cell 0;have xx1:=hbXx.cell 1;have xx2:=hbXx.cell 2;have xx3:=hbXx.cell 3;simp at xx0 xx1 xx2 xx3 yx2;have hK7:KT [3,76,44] ws w7:=KT.of_below hB7;have hJ7:=hJ.kt hK7 ZS (fun _ _ h=>h.kt hK7 ZS);obtain⟨cells,hO7⟩:=hJ7.own;rw[HIL.out]at hO7;have hOx:=ownsRow_setCell_other hO7 (a:=⟨ws.heap.size,2,none⟩) (fun e=>by have:=(hob _ e).2;simp at this) (.slice A7' xi.args.length c7')
         go_wp2_with(
          at_builtin;go_loud (refine YcA _ rfl _ _ 35 rfl (wi.heap.size+2) 44 4 48 Tryz.underlying35 Tryz.info44 rfl ZD _ m cells rfl hOx _ ZS #[.int .i64 xi.op,.int .i64 xi.dst,.slice A7' xi.args.length c7',.int .i64 xi.num] rfl rfl (by intro u hu;simp at hu;rcases hu with rfl|rfl|rfl|rfl<;>rfl) ZO ZD ZX ?_)
          intro v' w3 hown3 hg3 hfr3;obtain⟨Av,cv,hv3⟩:=Yp hown3;subst hv3;have hgg:((w7.setCell ⟨ws.heap.size,2,none⟩ (.slice A7' xi.args.length c7')).alloc (.cells #[.int .i64 xi.op,.int .i64 xi.dst,.slice A7' xi.args.length c7',.int .i64 xi.num] 44)).grownBy w3 (Value.slice Ai m ci).ownBlock:=hg3;clear hg3;have hz3:=hgg.size;simp at hz3;have hbC3:=(hbCx.alloc _).grown hgg (fun e=>by have:=(hob _ e).1;omega);have t3:=hbC3.cell 2;simp at t3;have t3f:=hbC3.frozen 2
          have t3l:=hbC3.lt)
         go_roundw
         case rel=>
          have hlm:=HIL.out;have ha7:∀k',(Value.slice A7' xi.args.length c7').ownBlock=some k'→ws.heap.size≤k':=fun k' h=>by have:=YG hI7 h;simp at this;omega
          have hub:∀u∈rowsP es++rowsI is,∀k',u.ownBlock=some k'→k'<ws.heap.size:=fun u hu k' h=>by
           rcases List.mem_append.1 hu with hu|hu
           · exact(Yey hP u hu k' h).2
           · exact(Yf9 hJ u hu k' h).2
          have hzi:=hbi.size;have hKa:KT [3] w7 (w7.setCell ⟨ws.heap.size,2,none⟩ (.slice A7' xi.args.length c7')):=KT.refl.setCell hbX ZS _;have hKb:KT [3] (w7.setCell ⟨ws.heap.size,2,none⟩ (.slice A7' xi.args.length c7')) (w3.setCell ⟨wi.heap.size+1,2,none⟩ (.slice Av (m+1) cv)):=((KT.refl.alloc _).grown (hOx.alloc _) ZS hgg).setCell hbC3 ZS _;have hKf:KT [3,76] ws (w3.setCell ⟨wi.heap.size+1,2,none⟩ (.slice Av (m+1) cv)):=((((KT.of_below hB7).setCell hbX ZS _).alloc _).grown (hOx.alloc _) ZS hgg).setCell hbC3 ZS _;refine⟨m+1,.slice Av (m+1) cv,is++[(xi,.slice A7' xi.args.length c7')],ZN,ZO,by rw[List.map_append,HIS.out,YmW hml,HIN.out];rfl,YmZ HAPX.out (fun u hu k' h1 h2=>by have:=hub u hu k' h1;have:=ha7 k' h2;omega),?_,hP.kt hKf ZS (fun _ _ h=>h.kt hKf ZS),?_,?_⟩
          · simpa using hbC3.set 2 (.slice Av (m+1) cv)
          · have hJX:=hJ7.turn (w':=w7.setCell ⟨ws.heap.size,2,none⟩ (.slice A7' xi.args.length c7')) (fun k' hk'=>Yci (by have:=(hob _ hk').2;simp;omega)) (fun _ _ h=>CInS.kt h hKa ZS)
            refine RRow.snoc (cs:=[.int .i64 xi.op,.int .i64 xi.dst,.slice A7' xi.args.length c7',.int .i64 xi.num]) hJX (by rw[hlm];exact hOx) ?_ rfl (fun _ _ h=>CInS.kt h hKb ZS) ?_
            · rw[hlm]
              exact ownsRow_setCell_other hown3 (fun e=>by have:=(YG hown3 e).1;simp at this) _
            · have hI7f:=YaT hI7 (hKa.trans hKb) ZS
              exact⟨rfl,Ycj hI7f ZX,Nat.le_trans hal ZD⟩
          · exact((((hbi.trans (hB7.mono hbi.size)).setCell (p:=⟨ws.heap.size,2,none⟩) ZX _).alloc ZX _).grown hgg ZX (fun k' hk'=>by have:=(hob _ hk').1;omega)).setCell ZS _
         case measure=>simp[intOf];omega
        · obtain rfl:m=(F.blk n).insts.length:=by omega
          have his:=HIS.out;rw[List.take_length]at his;have HIS2:=Lh his;clear his HIS;have hgo:=hbx.below hbi hgl;have o2:=hgo.cell 2;have ogl:=hgo.lt;have d0:=hbC.cell 0;have d1:=hbC.cell 1;have d2:=hbC.cell 2;have d3:=hbC.cell 3;have d4:=hbC.cell 4;have d5:=hbC.cell 5;have d6:=hbC.cell 6;have hgC:=hbC.lt;simp at o2 d0 d1 d2 d3 d4 d5 d6;have hKr:KT [3,76,44,41] wi wr:=KT.of_below hbi;have hRr:=hR.kt hKr ZS (fun _ _ h=>CBS.kt h hKr ZS ZS ZS);obtain⟨cells,hOb⟩:=hRr.own;have hpl:ps.length=n:=by have:=congrArg List.length hps;simpa[Nat.min_eq_left hn]using this
          have hobb:=fun k' (hk':(Value.slice Ab ps.length cb).ownBlock=some k')=>hR.lt hk'
          have hbf:∀x∈ps,(∀k',x.vp.ownBlock=some k'→k'<wi.heap.size)∧(∀k',x.vi.ownBlock=some k'→k'<wi.heap.size)∧∀u∈x.rows,∀k',u.ownBlock=some k'→k'<wi.heap.size:=fun x hx=>by
           obtain⟨cs,hcs⟩:=hR.all_ x hx;exact⟨fun k' hk'=>(hcs.hp.lt hk').2,fun k' hk'=>(hcs.hi.lt hk').2,fun u hu k' hk'=>(YmX hcs u hu k' hk').2⟩
          have HBF:=Lh hbf;have HPL:=Lh hpl;have hple:ps.length≤n:=by omega
          have hzb:=hBr.size;have hzi:=hbi.size;clear hpl hbf;have X_hps:=Lh hps;have X_hpw:=Lh hpw;have X_hV:=Lh hV;have X_hI:=Lh hI;have X_hR:=Lh hR;have X_hRr:=Lh hRr;have X_hP:=Lh hP;have X_hJ:=Lh hJ;have X_hbi:=Lh hbi;have X_hbc:=Lh hbc;have X_hB:=Lh hB;have X_hBr:=Lh hBr;have X_hobb:=Lh hobb;have X_hKr:=Lh hKr;have X_hbC:=Lh hbC;have X_hb0:=Lh hb0;have X_hWi:=Lh hWi;have X_r2:=Lh r2;have X_r3:=Lh r3;have X_r4:=Lh r4;have X_hbx:=Lh hbx;have X_hn:=Lh hn;have X_hm:=Lh hm;clear hps hpw hV hI hR hRr hP hJ hbi hbc hB hBr hobb hKr hbC hb0 hWi r2 r3 r4 hbx hn hm hob hml;have hcR:wr.rangeAt (wi.heap.size+1) 0 ([.string (F.blk n).name,.slice Ap (F.blk n).phis.length cp,.slice Ai (F.blk n).insts.length ci,.int .i64 (F.blk n).term.kind,.int .i64 (F.blk n).term.var,.int .i64 (F.blk n).term.t0,.int .i64 (F.blk n).term.t1]:List Value):=by
           have:=World.rangeAt_of_block (w:=wr) (b:=wi.heap.size+1) X_hbC.out 0 7;simpa using this
          have huB:=Tryz.underlying41;have hinB:(Tryz.prog.info? 41).map (·.size)=some ([.string (F.blk n).name,.slice Ap (F.blk n).phis.length cp,.slice Ai (F.blk n).insts.length ci,.int .i64 (F.blk n).term.kind,.int .i64 (F.blk n).term.var,.int .i64 (F.blk n).term.t0,.int .i64 (F.blk n).term.t1]:List Value).length:=by kernel_rfl
          clear d0 d1 d2 d3 d4 d5 d6
          go_upto_region 17 with fail
          go_wp2_with(first
           |(refine wpList_load_mid rfl 41 _ rfl (wi.heap.size+1) 0 rfl [.string (F.blk n).name,.slice Ap (F.blk n).phis.length cp,.slice Ai (F.blk n).insts.length ci,.int .i64 (F.blk n).term.kind,.int .i64 (F.blk n).term.var,.int .i64 (F.blk n).term.t0,.int .i64 (F.blk n).term.t1] _ hcR huB rfl hinB ?_)
           |(refine Yh3 rfl _ _ _ rfl Tryz.underlying24 Tryz.info41 rfl ?_)
           |(at_builtin;refine YcA _ rfl _ _ 24 rfl B2 41 7 96 Tryz.underlying24 Tryz.info41 rfl ZD _ ps.length cells rfl hOb _ ZS #[.string (F.blk n).name,.slice Ap (F.blk n).phis.length cp,.slice Ai (F.blk n).insts.length ci,.int .i64 (F.blk n).term.kind,.int .i64 (F.blk n).term.var,.int .i64 (F.blk n).term.t0,.int .i64 (F.blk n).term.t1] rfl rfl (by intro u hu;simp at hu;rcases hu with rfl|rfl|rfl|rfl|rfl|rfl|rfl<;>rfl) ZO ZD ZO ?_
             intro v' w3 hown3 hg3 hfr3;obtain⟨Av,cv,hv3⟩:=Yp hown3;subst hv3;have hgg:(wr.alloc (.cells #[.string (F.blk n).name,.slice Ap (F.blk n).phis.length cp,.slice Ai (F.blk n).insts.length ci,.int .i64 (F.blk n).term.kind,.int .i64 (F.blk n).term.var,.int .i64 (F.blk n).term.t0,.int .i64 (F.blk n).term.t1] 41)).grownBy w3 (Value.slice Ab ps.length cb).ownBlock:=hg3;clear hg3;have hz3:=hgg.size;simp at hz3;have hgo3:=(hgo.alloc (.cells #[.string (F.blk n).name,.slice Ap (F.blk n).phis.length cp,.slice Ai (F.blk n).insts.length ci,.int .i64 (F.blk n).term.kind,.int .i64 (F.blk n).term.var,.int .i64 (F.blk n).term.t0,.int .i64 (F.blk n).term.t1] 41)).grown hgg (fun e=>Yck hOb hgo ZD e);have t3:=hgo3.cell 2;simp at t3;have t3f:=hgo3.frozen 2
             have t3l:=hgo3.lt))
          go_roundw
          case rel=>
           have hps:=X_hps.out;have hpw:=X_hpw.out;have hV:=X_hV.out;have hI:=X_hI.out;have hRr:=X_hRr.out;have hP:=X_hP.out;have hJ:=X_hJ.out;have hbi:=X_hbi.out;have hbc:=X_hbc.out;have hobb:=X_hobb.out;have hb0:=X_hb0.out;have hn:=X_hn.out;have hKz:KT [3,76,44,50] wr (w3.setCell ⟨g,2,none⟩ (.slice Av (ps.length+1) cv)):=((KT.refl.alloc _).grown (hOb.alloc _) ZS hgg).setCell hgo3 ZS _;have hKw:KT [3,76,44,50] wi (w3.setCell ⟨g,2,none⟩ (.slice Av (ps.length+1) cv)):=(KT.of_below hbi).trans hKz;refine⟨n+1,.slice Av (ps.length+1) cv,ps++[⟨F.blk n,.slice Ap (F.blk n).phis.length cp,.slice Ai (F.blk n).insts.length ci,es,is⟩],ZN,ZO,?_,?_,by simpa using t3l,?_,hV.kt hKw ZS (fun _ _ h=>h),YaT hI hKw ZS,Nat.le_trans hBr2 hKw.size,?_,?_⟩
           · rw[List.map_append,hps,List.take_add_one,PFunc.blk_get hlt];rfl
           · rw[List.pairwise_append]
             refine⟨hpw,List.pairwise_singleton _ _,fun x hx y hy=>?_⟩;rw[List.mem_singleton]at hy;subst hy;exact⟨fun k l hk hl=>by have h1:=(HBF.out x hx).1 k hk;have h2:=(hP.lt hl).1;omega,fun k l hk hl=>by have h1:=(HBF.out x hx).2.1 k hk;have h2:=(hJ.lt hl).1;omega,fun v hv u hu k l hk hl=>by have h1:=(HBF.out x hx).2.2 v hv k hk;have h2:=(List.mem_append.1 hu).elim (fun h=>(Yey hP u h l hl).1) (fun h=>(Yf9 hJ u h l hl).1);omega⟩
           · simpa using hgo3.set 2 (.slice Av (ps.length+1) cv)
           · refine RRow.snoc (cs:=[.string (F.blk n).name,.slice Ap (F.blk n).phis.length cp,.slice Ai (F.blk n).insts.length ci,.int .i64 (F.blk n).term.kind,.int .i64 (F.blk n).term.var,.int .i64 (F.blk n).term.t0,.int .i64 (F.blk n).term.t1]) hRr hOb ?_ rfl (fun _ _ h=>CBS.kt h hKz ZS ZS ZS) ?_
             · exact ownsRow_setCell_other hown3 (fun e=>Yck hown3 hgo3 ZD e) _
             · exact CBS.rebase (base:=wi.heap.size+2) ⟨rfl,hnz,HES2.out,HIS2.out,hP.kt hKz ZS (fun _ _ h=>h.kt hKz ZS),hJ.kt hKz ZS (fun _ _ h=>h.kt hKz ZS),HAPX.out⟩ ZO
           · exact(((hbc.trans (hbi.mono ZO)).alloc ZO _).grown hgg ZX (fun k' hk'=>by have:=(hobb k' hk').1;omega)).setCell ZX _
          case measure=>simp[intOf];omega
   · obtain rfl:n=F.blocks.length:=by omega
     rw[List.take_length]at hps;have o0:=hbx.cell 0;have o1:=hbx.cell 1;have o2:=hbx.cell 2;simp at o0 o1 o2;have hout:=BoxAt.below (BoxAt.new (w.alloc (.cells #[.slice A0 F.vars.length c0,.slice A1 F.params.length c1,.slice A2 F.blocks.length c2] 26)) #[.slice none 0 0,.slice none 0 0,.slice none 0 0] 26) hbc ZS;simp at hout;have e0:=hout.cell 0;have e1:=hout.cell 1;have e2:=hout.cell 2;have f0:=hout.frozen 0;have f1:=hout.frozen 1;have f2:=hout.frozen 2;have hol:=hout.lt;simp at e0 e1 e2;go_wp2;have hz:=hout.set3 (a:=.slice A7 F.vars.length c7) (b:=.slice A8 F.params.length c8) (c:=.slice Ab ps.length cb);have z0:=hz.cell 0;have z1:=hz.cell 1;have z2:=hz.cell 2;simp only[List.getElem?_toArray,List.getElem?_cons_zero,List.getElem?_cons_succ]at z0 z1 z2;have hKe:KT [3,76,44,50,41] wr (((wr.setCell ⟨w.heap.size+1,0,none⟩ (.slice A7 F.vars.length c7)).setCell ⟨w.heap.size+1,1,none⟩ (.slice A8 F.params.length c8)).setCell ⟨w.heap.size+1,2,none⟩ (.slice Ab ps.length cb)):=
      ((KT.refl.setCell hout ZS _).setCell (hout.set 0 _) ZS _).setCell ((hout.set 0 _).set 1 _) ZS _
     have hBz:=((hB.setCell (p:=⟨w.heap.size+1,0,none⟩) ZS (.slice A7 F.vars.length c7)).setCell (p:=⟨w.heap.size+1,1,none⟩) ZS (.slice A8 F.params.length c8)).setCell (p:=⟨w.heap.size+1,2,none⟩) ZS (.slice Ab ps.length cb)
     exact bodyPost_ret (v:=.agg #[.slice A7 F.vars.length c7,.slice A8 F.params.length c8,.slice Ab ps.length cb]) (by simp[results,Tryz.results38,go_sem,z0,z1,z2]) rfl ⟨_,_,_,ps,B2,rfl,(hV.kt hKe ZS (fun _ _ h=>h)).rebase ZO,Ycj (YaT hI hKe ZS) ZO,hps,
      hR.kt hKe ZS (fun _ _ h=>CBS.kt h hKe ZS ZS ZS),hpw,⟨ZO,HB2.out⟩,hBz⟩
theorem YoF{W w:World}{fv:Value}{F:PFunc}(hF:FnV W W.heap.size fv F)(hW:Below W.heap.size W w)(hN:Bnd F) :
 Calls Tryz.prog 38 #[fv] w fun e w'=>∃vv vp vb ps,e=.returned (.agg #[vv,vp,vb])∧RRow w' w.heap.size 50 2 Ybr vv F.vars∧w'.ownsRow w.heap.size 3 1 vp F.params.length (F.params.map (Value.int .i64))∧
  ps.map XBlk.b=F.blocks∧RRow w' w.heap.size 41 7 (CBS w' w.heap.size) vb ps∧ps.Pairwise BeforeX∧Below w.heap.size w w':=by
 refine(YoE hF hW hN).mono ?_;rintro e w' ⟨vv,vp,vb,ps,B2,rfl,h1,h2,h3,h4,h5,⟨h6,-⟩,h7⟩;exact⟨vv,vp,vb,ps,rfl,h1,h2,h3,(h4.imp fun _ _ h=>h.rebase h6).rebase h6,h5,h7⟩
theorem YoG{W w:World}{fv:Value}{F:PFunc}(hF:FnV W W.heap.size fv F)(hW:Below W.heap.size W w)(hN:Bnd F) :
 Calls Tryz.prog 38 #[fv] w fun e w'=>∃vv vp vb ps,e=.returned (.agg #[vv,vp,vb])∧RRow w' w.heap.size 50 2 Ybr vv F.vars∧w'.ownsRow w.heap.size 3 1 vp F.params.length (F.params.map (Value.int .i64))∧
  ps.map Prod.fst=F.blocks∧RRow w' w.heap.size 41 7 (CBO w' w.heap.size) vb ps∧ps.Pairwise YdR∧Below w.heap.size w w':=by
 refine(YoF hF hW hN).mono ?_;rintro e w' ⟨vv,vp,vb,ps,rfl,h1,h2,h3,h4,h5,h6⟩;exact⟨vv,vp,vb,ps.map XBlk.old,rfl,h1,h2,by rw[← h3,List.map_map];rfl,h4.map _ fun _ _ h=>h.old,List.pairwise_map.2 (h5.imp fun h=>h.old),h6⟩
end Go.Proofs.YtjlclkcmfokobaaGreatDoor
