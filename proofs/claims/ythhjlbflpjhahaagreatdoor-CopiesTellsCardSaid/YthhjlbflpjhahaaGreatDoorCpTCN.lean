/- The walk of the document's Put: a program with y for x. -/
import Derived.Test.YthhjlbflpjhahaaGreatDoorCvQN
import Derived.Test.YthhjlbflpjhahaaGreatDoorMonLN
import Derived.Test.YthhjlbflpjhahaaGreatDoorCqQN
namespace Go.Proofs.YthhjlbflpjhahaaGreatDoor
open Go.RowKit
theorem ZE{P:Prop}(h:P:=by first|exact Below.refl _ _|exact(Below.refl _ _).drew):P:=h
set_option maxRecDepth 100000
def FnD(w:World)(D:Nat→Prop)(v:Value)(F:PFunc):Prop:=∃v0 v1 v2,v=.agg #[v0,v1,v2]∧DVars w D v0 F.vars∧DInts w D v1 F.params∧DBlks w D v2 F.blocks
section
variable {w w':World} {v:Value} {F:PFunc} {D D':Nat→Prop} {B:Nat}
theorem FnD.fn(h:FnD w D v F):FnV w w.heap.size v F:=by
 obtain⟨v0,v1,v2,rfl,h0,h1,h2⟩:=h;exact⟨v0,v1,v2,rfl,h0.rd fun _ h _=>h,h1.rd fun _ h _=>h,h2.rd fun _ h _=>h⟩
theorem FnD.turn(h:FnD w D v F)(ht:Tr D D' w w'):FnD w' D' v F:=by
 obtain⟨v0,v1,v2,rfl,h0,h1,h2⟩:=h;exact⟨v0,v1,v2,rfl,h0.turn ht,h1.turn ht,h2.turn ht⟩
theorem Tr.below(h:Below w.heap.size w w'):Tr D D w w':=⟨h.size,fun b hb hl=>⟨h.block b hl,hb⟩⟩
theorem Sl.d{α:Type}{sz:Nat}{R:Nat→Nat→α→Prop}{C:List Value→α→Prop}{xs:List α}(h:Sl B v xs sz R)(hB:B≤w.heap.size)(hD:∀b,b<B→D b)
 (hR:∀b o x,b<B→R b o x→∃cs,cs.length=sz∧(∀(j:Nat) u,cs[j]?=some u→w.cell? ⟨b,o+j,none⟩=some u)∧C cs x):DRow w D sz C v xs:=by
 obtain⟨A,c,rfl,hl,hc,hr⟩:=h;refine⟨A,c,rfl,hl,hc,fun i x hx=>?_⟩;obtain⟨b,off,ha,hb,hr⟩:=hr i x hx;obtain⟨cs,h1,h2,h3⟩:=hR _ _ _ hb hr;exact⟨b,off,cs,ha,hD b hb,ZO,h1,h2,h3⟩
theorem SInts.d{xs:List Int}(h:SInts w B v xs)(hB:B≤w.heap.size)(hD:∀b,b<B→D b):DInts w D v xs:=
 Sl.d h hB hD fun b o x _ hr=>⟨[.int .i64 x],rfl,fun j u hu=>by
  match j,hu with
  |0,hu=>cases hu;exact hr,rfl⟩
theorem SVars.d{xs:List YaE}(h:SVars w B v xs)(hB:B≤w.heap.size)(hD:∀b,b<B→D b):DVars w D v xs:=
 Sl.d h hB hD fun b o x _ hr=>⟨[.string x.name,.int .i64 x.ty],rfl,fun j u hu=>by
  match j,hu with
  |0,hu=>cases hu;exact hr.2.1
  |1,hu=>cases hu;exact hr.2.2,hr.1,rfl⟩
theorem SPhis.d{xs:List PPhi}(h:SPhis w B v xs)(hB:B≤w.heap.size)(hD:∀b,b<B→D b):DPhis w D v xs:=
 Sl.d h hB hD fun b o x _ hr=>by
  obtain⟨h0,⟨v1,h1,s1⟩,v2,h2,s2⟩:=hr
  exact⟨[.int .i64 x.dst,v1,v2],rfl,fun j u hu=>by
   match j,hu with
   |0,hu=>cases hu;exact h0
   |1,hu=>cases hu;exact h1
   |2,hu=>cases hu;exact h2,v1,v2,rfl,s1.d hB hD,s2.d hB hD⟩
theorem SInsts.d{xs:List PInst}(h:SInsts w B v xs)(hB:B≤w.heap.size)(hD:∀b,b<B→D b):DInsts w D v xs:=
 Sl.d h hB hD fun b o x _ hr=>by
  obtain⟨h0,h1,⟨v1,h2,s1⟩,h3⟩:=hr
  exact⟨[.int .i64 x.op,.int .i64 x.dst,v1,.int .i64 x.num],rfl,fun j u hu=>by
   match j,hu with
   |0,hu=>cases hu;exact h0
   |1,hu=>cases hu;exact h1
   |2,hu=>cases hu;exact h2
   |3,hu=>cases hu;exact h3,v1,rfl,s1.d hB hD⟩
theorem FnV.d(h:FnV w B v F)(hB:B≤w.heap.size)(hD:∀b,b<B→D b):FnD w D v F:=by
 obtain⟨v0,v1,v2,rfl,s0,s1,s2⟩:=h;refine⟨v0,v1,v2,rfl,s0.d hB hD,s1.d hB hD,Sl.d s2 hB hD fun b o x _ hr=>?_⟩;obtain⟨hn,h0,⟨u1,h1,t1⟩,⟨u2,h2,t2⟩,h3,h4,h5,h6⟩:=hr
 exact⟨[.string x.name,u1,u2,.int .i64 x.term.kind,.int .i64 x.term.var,.int .i64 x.term.t0,.int .i64 x.term.t1],rfl,fun j u hu=>by
  match j,hu with
  |0,hu=>cases hu;exact h0
  |1,hu=>cases hu;exact h1
  |2,hu=>cases hu;exact h2
  |3,hu=>cases hu;exact h3
  |4,hu=>cases hu;exact h4
  |5,hu=>cases hu;exact h5
  |6,hu=>cases hu;exact h6,u1,u2,rfl,hn,t1.d hB hD,t2.d hB hD⟩
theorem FnD.blkD{v0 v1 u1 u2:Value}{bb off n c i:Nat}(h:FnD w D (.agg #[v0,v1,.slice (some ⟨bb,off,none⟩) n c]) F)(hw:Below w.heap.size w w')(hi:i<F.blocks.length)(h1:w'.cell? ⟨bb,off+i*7+1,none⟩=some u1)(h2:w'.cell? ⟨bb,off+i*7+2,none⟩=some u2) :
 DPhis w D u1 (F.blk i).phis∧DInsts w D u2 (F.blk i).insts:=by
 obtain⟨w0,w1,w2,e,-,-,hb⟩:=h;simp only[Value.agg.injEq,Array.mk.injEq,List.cons.injEq,and_true]at e;obtain⟨-,-,rfl⟩:=e;obtain⟨cs,hbl,-,hc,x1,x2,rfl,-,h3,h4⟩:=hb.el (PFunc.blk_get hi);rw[hw.cell (p:=⟨bb,off+i*7+1,none⟩) hbl,hc 1 _ rfl]at h1;rw[hw.cell (p:=⟨bb,off+i*7+2,none⟩) hbl,hc 2 _ rfl]at h2;cases h1;cases h2;exact⟨h3,h4⟩
end
def NB(B0:Nat)(w:World)(b:Nat):Prop:=NT [3] w b∧B0≤b
def CPhN(W:World)(D:Nat→Prop)(B0:Nat)(w:World)(cs:List Value)(x:PPhi):Prop:=∃v1 v2,cs=[.int .i64 x.dst,v1,v2]∧DInts w (NB B0 w) v1 x.args∧DInts W D v2 x.froms
def CInN(B0:Nat)(w:World)(cs:List Value)(x:PInst):Prop:=∃v1,cs=[.int .i64 x.op,.int .i64 x.dst,v1,.int .i64 x.num]∧DInts w (NB B0 w) v1 x.args
def CBN(W:World)(D:Nat→Prop)(B0:Nat)(w:World)(base:Nat)(cs:List Value)(x:PBlock×Value×Value):Prop:=
 cs=[.string x.1.name,x.2.1,x.2.2,.int .i64 x.1.term.kind,.int .i64 x.1.term.var,.int .i64 x.1.term.t0,.int .i64 x.1.term.t1]∧x.1.name.size≤maxLen∧
  RRow w base 64 3 (CPhN W D B0 w) x.2.1 x.1.phis∧RRow w base 67 4 (CInN B0 w) x.2.2 x.1.insts
section
variable {W w w':World} {base B0:Nat} {ts:List TypeId} {cs:List Value} {v:Value} {D D':Nat→Prop}
theorem NB.tr(hk:KT ts w w')(hi:3∈ts):Tr (NB B0 w) (NB B0 w') w w':=⟨hk.size,fun b hb hl=>by
 have h:=(hk.tr (ts':=[3]) (by simpa using hi)).2 b hb.1 hl
 exact⟨h.1,h.2,hb.2⟩⟩
theorem CPhN.kt{x:PPhi}(h:CPhN W D B0 w cs x)(hk:KT ts w w')(hi:3∈ts):CPhN W D B0 w' cs x:=by
 obtain⟨v1,v2,e,h1,h2⟩:=h;exact⟨v1,v2,e,h1.turn (NB.tr hk hi),h2⟩
theorem CInN.kt{x:PInst}(h:CInN B0 w cs x)(hk:KT ts w w')(hi:3∈ts):CInN B0 w' cs x:=by
 obtain⟨v1,e,h1⟩:=h;exact⟨v1,e,h1.turn (NB.tr hk hi)⟩
theorem CBN.kt{x:PBlock×Value×Value}(h:CBN W D B0 w base cs x)(hk:KT ts w w')(hi:3∈ts)(hp:64∈ts)(hn:67∈ts):CBN W D B0 w' base cs x:=
 ⟨h.1,h.2.1,h.2.2.1.kt hk hp (fun _ _ h=>h.kt hk hi),h.2.2.2.kt hk hn (fun _ _ h=>h.kt hk hi)⟩
theorem Ynh{F G:PFunc}{v0 v1 v2 vb:Value}{ps:List (PBlock×Value×Value)}(hF:FnD W D (.agg #[v0,v1,v2]) F)(hw:Below W.heap.size W w)(h:RRow w base 62 7 (CBN W D B0 w base) vb ps)
 (he:ps.map Prod.fst=G.blocks) (h0:G.vars=F.vars) (h1:G.params=F.params) (hB:Bnd G) (hD:∀b,D b→D' b) (hD0:∀b,B0≤b→D' b) (hb0:B0≤base):FnD w D' (.agg #[v0,v1,vb]) G:=by
 have hT:Tr D D' W w:=⟨hw.size,fun b hb hl=>⟨hw.block b hl,hD b hb⟩⟩;obtain⟨u0,u1,u2,e,s0,s1,-⟩:=hF;simp only[Value.agg.injEq,Array.mk.injEq,List.cons.injEq,and_true]at e;obtain⟨rfl,rfl,rfl⟩:=e;refine⟨v0,v1,vb,rfl,by rw[h0];exact s0.turn hT,by rw[h1];exact s1.turn hT,?_⟩;have hn:ps.length≤1048576:=by have:=hB.blocks;rw[← he,List.length_map]at this;omega
 have hDb:∀{u:Value} (b:Nat),base≤b→u.ownBlock=some b→D' b:=fun b hb _=>hD0 b (Nat.le_trans hb0 hb)
 obtain⟨A,c,rfl,hl,hc,hr⟩:=h.done (D:=D') hn hDb;refine⟨A,c,by rw[← he,List.length_map],by rw[← he,List.length_map];exact hl,by rw[← he,List.length_map];exact hc,fun i x hx=>?_⟩;rw[← he,List.getElem?_map]at hx;obtain⟨p,hx2,rfl⟩:=Option.map_eq_some_iff.1 hx;obtain⟨b,off,cs,ha,hd,hb,hcs,hcells,hce,hz,h1,h2⟩:=hr i p hx2;have hm:p.1∈G.blocks:=by rw[← he];exact List.mem_map_of_mem (List.mem_of_getElem? hx2)
 have hbd:=hB.parts _ hm;have hmono:∀b,b<w.heap.size→NB B0 w b→D' b:=fun b _ h=>hD0 b h.2
 refine⟨b,off,cs,ha,hd,hb,hcs,hcells,_,_,hce,hz,?_,?_⟩
 · exact(h1.done (D:=D') ZO hDb).imp (fun _ _ h=>h) fun cs x ⟨x1,x2,e,d1,d2⟩=>⟨x1,x2,e,d1.turn (Tr.mono hmono),d2.turn hT⟩
 · exact(h2.done (D:=D') ZO hDb).imp (fun _ _ h=>h) fun cs x ⟨x1,e,d1⟩=>⟨x1,e,d1.turn (Tr.mono hmono)⟩
theorem Yni{x:PPhi}(h:CPhN W D B0 w cs x):∀y∈cs,y.oneCell'=true:=by
 obtain⟨v1,v2,rfl,⟨A,c,rfl,-⟩,A',c',rfl,-⟩:=h;intro y hy;simp at hy;rcases hy with rfl|rfl|rfl<;>rfl
theorem Ynj{x:PInst}(h:CInN B0 w cs x):∀y∈cs,y.oneCell'=true:=by
 obtain⟨v1,rfl,A,c,rfl,-⟩:=h;intro y hy;simp at hy;rcases hy with rfl|rfl|rfl|rfl<;>rfl
theorem Ynk{bb off n c i:Nat}{u:Value}{b:PBlock}(h:DPhis W D (.slice (some ⟨bb,off,none⟩) n c) b.phis)(hw:Below W.heap.size W w)(hi:i<b.phis.length)(h1:w.cell? ⟨bb,off+i*3+2,none⟩=some u):DInts W D u (b.phi i).froms:=by
 obtain⟨cs,hbl,-,hc,x1,x2,rfl,-,h3⟩:=h.el (PBlock.phi_get hi);rw[hw.cell (p:=⟨bb,off+i*3+2,none⟩) hbl,hc 2 _ rfl]at h1;cases h1;exact h3
end
def YmF(x y:Int)(b:PBlock)(k:Nat):List PPhi:=((b.phis.take k).filter fun p=>decide (p.dst≠x)).map (clP (sbI x y))
def psIk(x y:Int)(b:PBlock)(k:Nat):List PInst:=((b.insts.take k).filter fun p=>decide (p.dst≠x)).map (clI (sbI x y))
section
variable {x y:Int} {b:PBlock} {k:Nat}
theorem Ynl(h:k<b.phis.length)(he:(b.phi k).dst≠x):YmF x y b (k+1)=YmF x y b k++[clP (sbI x y) (b.phi k)]:=by
 unfold YmF;rw[List.take_add_one,PBlock.phi_get h,List.filter_append,List.map_append];simp[he]
theorem Ynm(h:k<b.phis.length)(he:(b.phi k).dst=x):YmF x y b (k+1)=YmF x y b k:=by
 unfold YmF;rw[List.take_add_one,PBlock.phi_get h,List.filter_append,List.map_append];simp[he]
theorem Ynn(h:k<b.insts.length)(he:(b.inst k).dst≠x):psIk x y b (k+1)=psIk x y b k++[clI (sbI x y) (b.inst k)]:=by
 unfold psIk;rw[List.take_add_one,PBlock.inst_get h,List.filter_append,List.map_append];simp[he]
theorem Yno(h:k<b.insts.length)(he:(b.inst k).dst=x):psIk x y b (k+1)=psIk x y b k:=by
 unfold psIk;rw[List.take_add_one,PBlock.inst_get h,List.filter_append,List.map_append];simp[he]
theorem YmV:(YmF x y b k).length≤b.phis.length:=by
 unfold YmF;rw[List.length_map];exact Nat.le_trans (List.length_filter_le _ _) (by rw[List.length_take];omega)
theorem YmW:(psIk x y b k).length≤b.insts.length:=by
 unfold psIk;rw[List.length_map];exact Nat.le_trans (List.length_filter_le _ _) (by rw[List.length_take];omega)
theorem Ynp:psB x y b=⟨b.name,YmF x y b b.phis.length,psIk x y b b.insts.length,clT (sbI x y) b.term⟩:=by
 unfold psB YmF psIk;rw[List.take_length,List.take_length]
end
set_option maxHeartbeats 16000000 in
theorem Ynq{W w:World}{D D':Nat→Prop}{fv:Value}{F:PFunc}(x y:Int)(hF:FnD W D fv F)(hW:Below W.heap.size W w)(hN:Bnd F)(hNG:Bnd (psF x y F))(hDD:∀b,D b→D' b)(hD0:∀b,w.heap.size≤b→D' b) :
 Calls Tryz.prog 56 #[fv,.int .i64 x,.int .i64 y] w fun e w'=>(∃v,e=.returned v∧FnD w' D' v (psF x y F))∧Below w.heap.size w w':=by
 obtain⟨A0,c0,A1,c1,A2,c2,rfl,l0,l1,l2,-,-,-,-,-,r2⟩:=id hF.fn.open_;unfold Len at *;have hWs:=hW.size;have nb:=hN.blocks;have HF:=Lh hF;have HN:=Lh hN;have HNG:=Lh hNG;have HDD:=Lh hDD;have HD0:=Lh hD0;have HR2:=Lh r2;obtain⟨wA,hwA⟩:∃wA:World,wA=((w.alloc (.cells #[.slice A0 F.vars.length c0,.slice A1 F.params.length c1,.slice A2 F.blocks.length c2] 26)).alloc (.cells #[.slice none 0 0,.slice none 0 0,.slice none 0 0] 26)).alloc (.cells #[.slice A0 F.vars.length c0,.slice A1 F.params.length c1,.slice none 0 0] 26):=⟨_,rfl⟩;have hbA:Below w.heap.size w wA:=by rw[hwA];exact BL
 have x0:BoxAt wA w.heap.size #[.slice A0 F.vars.length c0,.slice A1 F.params.length c1,.slice A2 F.blocks.length c2] 26:=by rw[hwA];exact((BoxAt.new _ _ _).alloc _).alloc _
 have x1:BoxAt wA (w.heap.size+1) #[.slice none 0 0,.slice none 0 0,.slice none 0 0] 26:=by
  rw[hwA];have:=(BoxAt.new (w.alloc (.cells #[.slice A0 F.vars.length c0,.slice A1 F.params.length c1,.slice A2 F.blocks.length c2] 26)) #[.slice none 0 0,.slice none 0 0,.slice none 0 0] 26).alloc (.cells #[.slice A0 F.vars.length c0,.slice A1 F.params.length c1,.slice none 0 0] 26);simpa using this
 have x2:BoxAt wA (w.heap.size+2) #[.slice A0 F.vars.length c0,.slice A1 F.params.length c1,.slice none 0 0] 26:=by
  rw[hwA];have:=BoxAt.new ((w.alloc (.cells #[.slice A0 F.vars.length c0,.slice A1 F.params.length c1,.slice A2 F.blocks.length c2] 26)).alloc (.cells #[.slice none 0 0,.slice none 0 0,.slice none 0 0] 26)) #[.slice A0 F.vars.length c0,.slice A1 F.params.length c1,.slice none 0 0] 26;simpa using this
 clear hF hN hNG r2 hDD hD0;go_enter Tryz.func56,Tryz.ntmps56;go_wp2_with fail
 go_loud (rw[← hwA])
 clear hwA
 go_loopw[23] (fun s wr=>∃(n:Nat) (vb:Value) (ps:List (PBlock×Value×Value)),s=.int .i64 n∧n≤F.blocks.length∧Hid (ps.map Prod.fst=(F.blocks.take n).map (psB x y))∧BoxAt wr (w.heap.size+2) #[.slice A0 F.vars.length c0,.slice A1 F.params.length c1,vb] 26∧BoxAt wr w.heap.size #[.slice A0 F.vars.length c0,.slice A1 F.params.length c1,.slice A2 F.blocks.length c2] 26∧BoxAt wr (w.heap.size+1) #[.slice none 0 0,.slice none 0 0,.slice none 0 0] 26∧RRow wr (w.heap.size+3) 62 7 (CBN W D w.heap.size wr (w.heap.size+3)) vb ps∧Below w.heap.size w wr) (fun s _=>F.blocks.length-(intOf s).toNat)
 case atStart=>exact⟨0,_,[],rfl,Nz _,rfl,x2,x0,x1,RRow.nil,hbA⟩
 case round=>as_aux_lemma=>
  clear x0 x1 x2 hbA;obtain⟨n,vb,ps,rfl,hn,HPS,hbx,hfx,hre,hR,hB⟩:=hrel;have hWr:Below W.heap.size W wr:=hW.trans (hB.mono hWs);obtain⟨Ab,cb,rfl⟩:=hR.form;have hfl:=hfx.lt;have hpl:ps.length=n:=by
   have h1:=congrArg List.length HPS.out;rw[List.length_map,List.length_map,List.length_take,Nat.min_eq_left hn]at h1;exact h1
  have HPL:=Lh hpl;have hple:ps.length≤n:=Nat.le_of_eq hpl;clear hpl
  by_cases hlt:n<F.blocks.length
  · as_aux_lemma=>
    obtain⟨bb,off,A3,c3,A4,c4,rfl,hbb,hnz,hy0,hy1,hy2,hy3,hy4,hy5,hy6,l3,l4,k3,k4,r3,r4⟩:=HR2.out.blk hWr hlt;unfold Len at l3 l4;have hpn:=HN.out.parts _ (YG hlt);obtain⟨hd3,hd4⟩:=HF.out.blkD hWr hlt hy1 hy2;obtain⟨wi,rfl⟩:∃wi:World,wi=wr:=⟨_,rfl⟩;have HBX:=Lh hbx;have HFX:=Lh hfx;have HRE:=Lh hre;have HR:=Lh hR;have HB:=Lh hB;have HWR:=Lh hWr;have HD3:=Lh hd3;have HR3:=Lh r3;have HR4:=Lh r4;have hzi:=hB.size;have hb2i:=hbx.lt;obtain⟨w2,hw2⟩:∃w2:World,w2=(wi.alloc (.cells #[.string (F.blk n).name,.slice A3 (F.blk n).phis.length c3,.slice A4 (F.blk n).insts.length c4,.int .i64 (F.blk n).term.kind,.int .i64 (F.blk n).term.var,.int .i64 (F.blk n).term.t0,.int .i64 (F.blk n).term.t1] 62)).alloc (.cells #[.string (F.blk n).name,.slice none 0 0,.slice none 0 0,.int .i64 (F.blk n).term.kind,.int .i64 (F.blk n).term.var,.int .i64 (F.blk n).term.t0,.int .i64 (F.blk n).term.t1] 62):=⟨_,rfl⟩;have hb2:Below wi.heap.size wi w2:=by rw[hw2];exact((Br _ _).alloc (Nr _) _).alloc ZS _
    have o2:BoxAt w2 wi.heap.size #[.string (F.blk n).name,.slice A3 (F.blk n).phis.length c3,.slice A4 (F.blk n).insts.length c4,.int .i64 (F.blk n).term.kind,.int .i64 (F.blk n).term.var,.int .i64 (F.blk n).term.t0,.int .i64 (F.blk n).term.t1] 62:=by rw[hw2];exact(BoxAt.new _ _ _).alloc _
    have c2x:BoxAt w2 (wi.heap.size+1) #[.string (F.blk n).name,.slice none 0 0,.slice none 0 0,.int .i64 (F.blk n).term.kind,.int .i64 (F.blk n).term.var,.int .i64 (F.blk n).term.t0,.int .i64 (F.blk n).term.t1] 62:=by
     rw[hw2];have:=BoxAt.new (wi.alloc (.cells #[.string (F.blk n).name,.slice A3 (F.blk n).phis.length c3,.slice A4 (F.blk n).insts.length c4,.int .i64 (F.blk n).term.kind,.int .i64 (F.blk n).term.var,.int .i64 (F.blk n).term.t0,.int .i64 (F.blk n).term.t1] 62)) #[.string (F.blk n).name,.slice none 0 0,.slice none 0 0,.int .i64 (F.blk n).term.kind,.int .i64 (F.blk n).term.var,.int .i64 (F.blk n).term.t0,.int .i64 (F.blk n).term.t1] 62;simpa using this
    have HO2:=Lh o2;have HC2:=Lh c2x;have HB2:=Lh hb2;clear hbx hfx hre hR hB hWr hd3 hd4 r3 r4
    go_upto_region 6 with fail
    go_loud (rw[← hw2])
    have p1:=o2.cell 1;have pl:=o2.lt;simp at p1;clear hw2 hy0 hy1 hy2 hy3 hy4 hy5 hy6 hb2 c2x o2;go_wp2_with fail;clear p1 pl
    go_loopw[35] (fun s wr=>∃(k:Nat) (vph:Value),s=.int .i64 k∧k≤(F.blk n).phis.length∧BoxAt wr (wi.heap.size+1) #[.string (F.blk n).name,vph,.slice none 0 0,.int .i64 (F.blk n).term.kind,.int .i64 (F.blk n).term.var,.int .i64 (F.blk n).term.t0,.int .i64 (F.blk n).term.t1] 62∧BoxAt wr wi.heap.size #[.string (F.blk n).name,.slice A3 (F.blk n).phis.length c3,.slice A4 (F.blk n).insts.length c4,.int .i64 (F.blk n).term.kind,.int .i64 (F.blk n).term.var,.int .i64 (F.blk n).term.t0,.int .i64 (F.blk n).term.t1] 62∧RRow wr (wi.heap.size+2) 64 3 (CPhN W D w.heap.size wr) vph (YmF x y (F.blk n) k)∧Below wi.heap.size wi wr) (fun s _=>(F.blk n).phis.length-(intOf s).toNat)
    case atStart=>exact⟨0,_,rfl,Nz _,HC2.out,HO2.out,RRow.nil,HB2.out⟩
    case round=>as_aux_lemma=>
     clear HC2 HO2 HB2;obtain⟨k,vph,rfl,hk,hC,hO,hP,hbi⟩:=hrel;have hBr:Below w.heap.size w wr:=HB.out.trans (hbi.mono HB.out.size);have hWi:Below W.heap.size W wr:=hW.trans (hBr.mono hWs);obtain⟨Ap,cp,rfl⟩:=hP.form;have HC:=Lh hC;have HO:=Lh hO;have HP:=Lh hP;have HBI:=Lh hbi;have HWI:=Lh hWi
     by_cases hkl:k<(F.blk n).phis.length
     · as_aux_lemma=>
       obtain⟨bp,op,A5,c5,A6,c6,e3,hbp,hp0,hp1,hp2,l5,l6,k5,k6,r5,r6⟩:=HR3.out.phi hWi hkl;have hplen:=HN.out.pairs _ (YG hlt) _ (YaH hkl)
       have HFR:=Lh (by
        have h3:=HD3.out;rw[e3]at h3
        exact Ynk h3 hWi hkl hp2:DInts W D (.slice A6 ((F.blk n).phi k).froms.length c6) ((F.blk n).phi k).froms)
       have HPY:=Lh (Ynl (x:=x) (y:=y) hkl);have HPN:=Lh (Ynm (x:=x) (y:=y) hkl);generalize (F.blk n).phi k=ph at *;unfold Len at l5 l6;have HPT:=Lh (fun(w':World) (h:Below W.heap.size W w')=>YmJ (c:=c5) x y r5 ZO h);obtain⟨ws,rfl⟩:∃ws:World,ws=wr:=⟨_,rfl⟩;obtain⟨wT,hwT⟩:∃wT:World,wT=ws.alloc (.cells #[.int .i64 ph.dst,.slice A5 ph.args.length c5,.slice A6 ph.froms.length c6] 64):=⟨_,rfl⟩;have hbT:Below ws.heap.size ws wT:=by rw[hwT];exact YaP _ _
       have hXT:BoxAt wT ws.heap.size #[.int .i64 ph.dst,.slice A5 ph.args.length c5,.slice A6 ph.froms.length c6] 64:=by rw[hwT];exact BoxAt.new _ _ _
       have hCT:=hC.below hbT hC.lt;have HOT:=Lh (hO.below hbT hO.lt);have HPT2:=Lh (hP.kt (KT.of_below hbT (ts:=[3,64])) ZS fun _ _ h=>h.kt (KT.of_below hbT (ts:=[3,64])) ZS);have HBT:=Lh (hbi.trans (hbT.mono hbi.size));have HWT:=Lh (hWi.trans (hbT.mono hWi.size));have t0:=hXT.cell 0;have t1:=hXT.cell 1;have t2:=hXT.cell 2;have tl:=hXT.lt;have m1:=hCT.cell 1;have ml:=hCT.lt;simp at t0 t1 t2 m1;have HCT:=Lh hCT;subst e3;clear hC hO hP hbi hBr hWi r5 r6 hbT hXT hCT HC HO HP HBI HWI
       go_upto_region 9 with fail
       go_loud (rw[← hwT])
       clear hwT hp0 hp1 hp2
       by_cases he:ph.dst=x
       · as_aux_lemma=>
         have d0:(ph.dst !=x)=false:=by rw[bne_eq_false_iff_eq];exact he
         have HE:=Lh (HPN.out he);clear he;go_wp2_with fail;go_roundw
         case rel=>exact⟨k+1,_,ZN,hkl,HCT.out,HOT.out,by rw[HE.out];exact HPT2.out,HBT.out⟩
         case measure=>simp[intOf];omega
       · as_aux_lemma=>
         have d0:(ph.dst !=x)=true:=by rw[bne_iff_ne];exact he
         have HE:=Lh (HPY.out he);have hkk:(YmF x y (F.blk n) k).length≤100000:=Nat.le_trans YmV ZO;clear he
         go_upto_region 10 with fail
         refine Ynf [43,44,45,46,47,48,49,50,51,52,53,54,55] (fun i w' v'=>(([fun _ v'=>v'=.pointer (some ⟨wi.heap.size+1,1,none⟩),fun _ v'=>v'=.slice Ap (YmF x y (F.blk n) k).length cp,fun _ v'=>v'=.pointer (some ⟨ws.heap.size,0,none⟩),fun _ v'=>v'=.int .i64 ph.dst,fun _ v'=>v'=.pointer (some ⟨ws.heap.size,1,none⟩),fun _ v'=>v'=.slice A5 ph.args.length c5,fun _ v'=>v'=.int .i64 x,fun _ v'=>v'=.int .i64 y,fun w' v'=>∃A c,v'=.slice A ph.args.length c∧w'.ownsRow wT.heap.size 3 1 (.slice A ph.args.length c) ph.args.length ((ph.args.map (sbI x y)).map (Value.int .i64)),fun _ v'=>v'=.pointer (some ⟨ws.heap.size,2,none⟩),fun _ v'=>v'=.slice A6 ph.froms.length c6,fun w' v'=>∃A c,v'=.agg #[.int .i64 ph.dst,.slice A ph.args.length c,.slice A6 ph.froms.length c6]∧w'.ownsRow wT.heap.size 3 1 (.slice A ph.args.length c) ph.args.length ((ph.args.map (sbI x y)).map (Value.int .i64)),fun w' v'=>∃N A c,v'=.slice (some ⟨N,0,none⟩) 1 1∧BoxAt w' N #[.int .i64 ph.dst,.slice A ph.args.length c,.slice A6 ph.froms.length c6] 64∧w'.ownsRow wT.heap.size 3 1 (.slice A ph.args.length c) ph.args.length ((ph.args.map (sbI x y)).map (Value.int .i64))]:List (World→Value→Prop)).getD i (fun _ _=>True)) w' v') ZK ZK ZK ZD ZK ZD ?mono ?step ?last
         case mono=>
          intro i w1 w2 v hi hb h
          match i,hi,h with
          |0,_,h=>exact h
          |1,_,h=>exact h
          |2,_,h=>exact h
          |3,_,h=>exact h
          |4,_,h=>exact h
          |5,_,h=>exact h
          |6,_,h=>exact h
          |7,_,h=>exact h
          |8,_,h=>exact(by obtain⟨A,c,e1,e2⟩:=h;exact⟨A,c,e1,YA e2 hb⟩)
          |9,_,h=>exact h
          |10,_,h=>exact h
          |11,_,h=>exact(by obtain⟨A,c,e1,e2⟩:=h;exact⟨A,c,e1,YA e2 hb⟩)
          |12,_,h=>exact(by obtain⟨N,A,c,e1,e2,e3⟩:=h;exact⟨N,A,c,e1,e2.below hb e2.lt,YA e3 hb⟩)
          |k+13,hi,_=>exact absurd hi (Nat.not_lt_of_le (Nat.le_add_left _ _))
         case step=>
          intro i o vs w1 ho hi hl hb hp K hK;have hl0:vs.length=13:=hl;clear hl;obtain⟨v0,r0,rfl,hl1⟩:=YmE (n:=12) hl0;obtain⟨v1,r1,rfl,hl2⟩:=YmE (n:=11) hl1;obtain⟨v2,r2,rfl,hl3⟩:=YmE (n:=10) hl2;obtain⟨v3,r3,rfl,hl4⟩:=YmE (n:=9) hl3;obtain⟨v4,r4,rfl,hl5⟩:=YmE (n:=8) hl4;obtain⟨v5,r5,rfl,hl6⟩:=YmE (n:=7) hl5;obtain⟨v6,r6,rfl,hl7⟩:=YmE (n:=6) hl6;obtain⟨v7,r7,rfl,hl8⟩:=YmE (n:=5) hl7;obtain⟨v8,r8,rfl,hl9⟩:=YmE (n:=4) hl8;obtain⟨v9,r9,rfl,hl10⟩:=YmE (n:=3) hl9;obtain⟨v10,r10,rfl,hl11⟩:=YmE (n:=2) hl10;obtain⟨v11,r11,rfl,hl12⟩:=YmE (n:=1) hl11;obtain⟨v12,r12,rfl,hl13⟩:=YmE (n:=0) hl12;obtain rfl:=List.eq_nil_of_length_eq_zero hl13;clear hl0 hl1 hl2 hl3 hl4 hl5 hl6 hl7 hl8 hl9 hl10 hl11 hl12 hl13
          match i,ho,hi,hp with
          |0,ho,hi,hp=>
           obtain rfl:=Option.some.inj ho;clear hi;clear hp;simp only[YmD,Act.put,La,Lz,Lc];go_simp
           try go_wp2
           refine hK.out (.pointer (some ⟨wi.heap.size+1,1,none⟩)) _ _ ?_ ZE rfl;simp only[YmD,Act.put,La,Lz,Lc]
          |1,ho,hi,hp=>
           obtain rfl:=Option.some.inj ho;clear hi;have q0:v0=.pointer (some ⟨wi.heap.size+1,1,none⟩):=hp 0 ZK;obtain rfl:=q0;clear hp;simp only[YmD,Act.put,La,Lz,Lc];have z9:=(hb.cell (p:=⟨wi.heap.size+1,1,none⟩) ml).trans m1;have zl:wi.heap.size+1<w1.heap.size:=Nt ml hb.size;go_simp
           try go_wp2
           refine hK.out (.slice Ap (YmF x y (F.blk n) k).length cp) _ _ ?_ ZE rfl;simp only[YmD,Act.put,La,Lz,Lc]
          |2,ho,hi,hp=>
           obtain rfl:=Option.some.inj ho;clear hi;clear hp;simp only[YmD,Act.put,La,Lz,Lc];go_simp
           try go_wp2
           refine hK.out (.pointer (some ⟨ws.heap.size,0,none⟩)) _ _ ?_ ZE rfl;simp only[YmD,Act.put,La,Lz,Lc]
          |3,ho,hi,hp=>
           obtain rfl:=Option.some.inj ho;clear hi;have q2:v2=.pointer (some ⟨ws.heap.size,0,none⟩):=hp 2 ZK;obtain rfl:=q2;clear hp;simp only[YmD,Act.put,La,Lz,Lc];have z9:=(hb.cell (p:=⟨ws.heap.size,0,none⟩) tl).trans t0;have zl:ws.heap.size<w1.heap.size:=Nt tl hb.size;go_simp
           try go_wp2
           refine hK.out (.int .i64 ph.dst) _ _ ?_ ZE rfl;simp only[YmD,Act.put,La,Lz,Lc]
          |4,ho,hi,hp=>
           obtain rfl:=Option.some.inj ho;clear hi;clear hp;simp only[YmD,Act.put,La,Lz,Lc];go_simp
           try go_wp2
           refine hK.out (.pointer (some ⟨ws.heap.size,1,none⟩)) _ _ ?_ ZE rfl;simp only[YmD,Act.put,La,Lz,Lc]
          |5,ho,hi,hp=>
           obtain rfl:=Option.some.inj ho;clear hi;have q4:v4=.pointer (some ⟨ws.heap.size,1,none⟩):=hp 4 ZK;obtain rfl:=q4;clear hp;simp only[YmD,Act.put,La,Lz,Lc];have z9:=(hb.cell (p:=⟨ws.heap.size,1,none⟩) tl).trans t1;have zl:ws.heap.size<w1.heap.size:=Nt tl hb.size;go_simp
           try go_wp2
           refine hK.out (.slice A5 ph.args.length c5) _ _ ?_ ZE rfl;simp only[YmD,Act.put,La,Lz,Lc]
          |6,ho,hi,hp=>
           obtain rfl:=Option.some.inj ho;clear hi;clear hp;simp only[YmD,Act.put,La,Lz,Lc];go_simp
           try go_wp2
           refine hK.out (.int .i64 x) _ _ ?_ ZE rfl;simp only[YmD,Act.put,La,Lz,Lc]
          |7,ho,hi,hp=>
           obtain rfl:=Option.some.inj ho;clear hi;clear hp;simp only[YmD,Act.put,La,Lz,Lc];go_simp
           try go_wp2
           refine hK.out (.int .i64 y) _ _ ?_ ZE rfl;simp only[YmD,Act.put,La,Lz,Lc]
          |8,ho,hi,hp=>
           obtain rfl:=Option.some.inj ho;clear hi;have q5:v5=.slice A5 ph.args.length c5:=hp 5 ZK;have q6:v6=.int .i64 x:=hp 6 ZK;have q7:v7=.int .i64 y:=hp 7 ZK;obtain rfl:=q5;obtain rfl:=q6;obtain rfl:=q7;clear hp;simp only[YmD,Act.put,La,Lz,Lc];go_simp;go_at_call 57;refine(HPT.out _ (HWT.out.trans (hb.mono HWT.out.size))).mono ?_;rintro e w9 ⟨⟨v9,rfl,ho9⟩,hb9⟩;obtain⟨A9,c9,rfl⟩:=Yh ho9;refine hK.out (.slice A9 ph.args.length c9) _ _ ?_ (hb9) (⟨_,_,rfl,YbB ho9 hb.size⟩);simp only[YmD,Act.put,La,Lz,Lc]
          |9,ho,hi,hp=>
           obtain rfl:=Option.some.inj ho;clear hi;clear hp;simp only[YmD,Act.put,La,Lz,Lc];go_simp
           try go_wp2
           refine hK.out (.pointer (some ⟨ws.heap.size,2,none⟩)) _ _ ?_ ZE rfl;simp only[YmD,Act.put,La,Lz,Lc]
          |10,ho,hi,hp=>
           obtain rfl:=Option.some.inj ho;clear hi;have q9:v9=.pointer (some ⟨ws.heap.size,2,none⟩):=hp 9 ZK;obtain rfl:=q9;clear hp;simp only[YmD,Act.put,La,Lz,Lc];have z9:=(hb.cell (p:=⟨ws.heap.size,2,none⟩) tl).trans t2;have zl:ws.heap.size<w1.heap.size:=Nt tl hb.size;go_simp
           try go_wp2
           refine hK.out (.slice A6 ph.froms.length c6) _ _ ?_ ZE rfl;simp only[YmD,Act.put,La,Lz,Lc]
          |11,ho,hi,hp=>
           obtain rfl:=Option.some.inj ho;clear hi;have q3:v3=.int .i64 ph.dst:=hp 3 ZK;have q8:∃A c,v8=.slice A ph.args.length c∧w1.ownsRow wT.heap.size 3 1 (.slice A ph.args.length c) ph.args.length ((ph.args.map (sbI x y)).map (Value.int .i64)):=hp 8 ZK;have q10:v10=.slice A6 ph.froms.length c6:=hp 10 ZK;obtain rfl:=q3;obtain⟨A7,c7,rfl,ho7⟩:=q8;obtain rfl:=q10;clear hp;simp only[YmD,Act.put,La,Lz,Lc];go_simp;refine hK.out (.agg #[.int .i64 ph.dst,.slice A7 ph.args.length c7,.slice A6 ph.froms.length c6]) _ _ ?_ (Br _ _) (⟨_,_,rfl,ho7⟩);simp only[YmD,Act.put,La,Lz,Lc]
          |12,ho,hi,hp=>
           obtain rfl:=Option.some.inj ho;clear hi;have q11:∃A c,v11=.agg #[.int .i64 ph.dst,.slice A ph.args.length c,.slice A6 ph.froms.length c6]∧w1.ownsRow wT.heap.size 3 1 (.slice A ph.args.length c) ph.args.length ((ph.args.map (sbI x y)).map (Value.int .i64)):=hp 11 ZK;obtain⟨A8,c8,rfl,ho8⟩:=q11;clear hp;simp only[YmD,Act.put,La,Lz,Lc];go_simp;refine hK.out (.slice (some ⟨w1.heap.size,0,none⟩) 1 1) _ _ ?_ ((Br _ _).alloc (Nr _) _) (⟨_,_,_,rfl,BoxAt.new _ _ _,YA ho8 ((Br _ _).alloc (Nr _) _)⟩);simp only[YmD,Act.put,La,Lz,Lc]
          |k+13,_,hi,_=>exact absurd hi (Nat.not_lt_of_le (Nat.le_add_left _ _))
         case last=>
          intro vs w1 hl hb1 hp;have hl0:vs.length=13:=hl;clear hl;obtain⟨v0,r0,rfl,hl1⟩:=YmE (n:=12) hl0;obtain⟨v1,r1,rfl,hl2⟩:=YmE (n:=11) hl1;obtain⟨v2,r2,rfl,hl3⟩:=YmE (n:=10) hl2;obtain⟨v3,r3,rfl,hl4⟩:=YmE (n:=9) hl3;obtain⟨v4,r4,rfl,hl5⟩:=YmE (n:=8) hl4;obtain⟨v5,r5,rfl,hl6⟩:=YmE (n:=7) hl5;obtain⟨v6,r6,rfl,hl7⟩:=YmE (n:=6) hl6;obtain⟨v7,r7,rfl,hl8⟩:=YmE (n:=5) hl7;obtain⟨v8,r8,rfl,hl9⟩:=YmE (n:=4) hl8;obtain⟨v9,r9,rfl,hl10⟩:=YmE (n:=3) hl9;obtain⟨v10,r10,rfl,hl11⟩:=YmE (n:=2) hl10;obtain⟨v11,r11,rfl,hl12⟩:=YmE (n:=1) hl11;obtain⟨v12,r12,rfl,hl13⟩:=YmE (n:=0) hl12;obtain rfl:=List.eq_nil_of_length_eq_zero hl13;clear hl0 hl1 hl2 hl3 hl4 hl5 hl6 hl7 hl8 hl9 hl10 hl11 hl12 hl13;have q0:v0=.pointer (some ⟨wi.heap.size+1,1,none⟩):=hp 0 (of_decide_eq_true ZK);have q1:v1=.slice Ap (YmF x y (F.blk n) k).length cp:=hp 1 (of_decide_eq_true ZK);have q2:v2=.pointer (some ⟨ws.heap.size,0,none⟩):=hp 2 (of_decide_eq_true ZK);have q3:v3=.int .i64 ph.dst:=hp 3 (of_decide_eq_true ZK);have q4:v4=.pointer (some ⟨ws.heap.size,1,none⟩):=hp 4 (of_decide_eq_true ZK);have q5:v5=.slice A5 ph.args.length c5:=hp 5 (of_decide_eq_true ZK);have q6:v6=.int .i64 x:=hp 6 (of_decide_eq_true ZK);have q7:v7=.int .i64 y:=hp 7 (of_decide_eq_true ZK);have q8:∃A c,v8=.slice A ph.args.length c∧w1.ownsRow wT.heap.size 3 1 (.slice A ph.args.length c) ph.args.length ((ph.args.map (sbI x y)).map (Value.int .i64)):=hp 8 (of_decide_eq_true ZK);have q9:v9=.pointer (some ⟨ws.heap.size,2,none⟩):=hp 9 (of_decide_eq_true ZK);have q10:v10=.slice A6 ph.froms.length c6:=hp 10 (of_decide_eq_true ZK);have q11:∃A c,v11=.agg #[.int .i64 ph.dst,.slice A ph.args.length c,.slice A6 ph.froms.length c6]∧w1.ownsRow wT.heap.size 3 1 (.slice A ph.args.length c) ph.args.length ((ph.args.map (sbI x y)).map (Value.int .i64)):=hp 11 (of_decide_eq_true ZK);have q12:∃N A c,v12=.slice (some ⟨N,0,none⟩) 1 1∧BoxAt w1 N #[.int .i64 ph.dst,.slice A ph.args.length c,.slice A6 ph.froms.length c6] 64∧w1.ownsRow wT.heap.size 3 1 (.slice A ph.args.length c) ph.args.length ((ph.args.map (sbI x y)).map (Value.int .i64)):=hp 12 (of_decide_eq_true ZK);obtain rfl:=q0;obtain rfl:=q1;obtain rfl:=q2;obtain rfl:=q3;obtain rfl:=q4;obtain rfl:=q5;obtain rfl:=q6;obtain rfl:=q7;obtain⟨A7,c7,rfl,ho7⟩:=q8;obtain rfl:=q9;obtain rfl:=q10;obtain⟨A8,c8,rfl,ho8⟩:=q11;obtain⟨N,A9,c9,rfl,bxN,ho9⟩:=q12;clear hp;simp only[YmD,Act.put,La,Lz,Lc];simp only[List.length_cons,List.length_nil,List.drop_succ_cons,List.drop_zero,Nat.zero_add,Nat.reduceAdd];have hK1:KT [3,64] wT w1:=KT.of_below hb1;have R1:=HPT2.out.kt hK1 ZS fun _ _ h=>h.kt hK1 ZS
          have hD1:DRow w1 (fun _=>True) 3 (CPhN W D w.heap.size w1) (.slice (some ⟨N,0,none⟩) 1 1) [clP (sbI x y) ph]:=Yhl (cs:=[.int .i64 ph.dst,.slice A9 ph.args.length c9,.slice A6 ph.froms.length c6]) bxN rfl ⟨_,_,rfl,DInts.of_own ho9 ZO fun b hb e=>⟨YaM ho9 ZS b hb e,ZO⟩,HFR.out⟩;have hml:=hb1.size;obtain⟨Az,cz,wz,hrz,hRz,hgz,-⟩:=Yhb (P:=Tryz.prog) (base:=wi.heap.size+2) (t:=55) (ty:=55) 3 56 Tryz.underlying55 Tryz.info64 rfl ZD ZD R1 hD1 (fun _ _ h=>Yni h) ZX ZO;simp only[List.length_cons,List.length_nil,Nat.zero_add]at hrz hRz;obtain⟨cells,hO1⟩:=R1.own;have hne:(Value.slice Ap (YmF x y (F.blk n) k).length cp).ownBlock≠some (wi.heap.size+1):=fun e=>by have:=(R1.lt e).1;omega
          have hne0:(Value.slice Ap (YmF x y (F.blk n) k).length cp).ownBlock≠some wi.heap.size:=fun e=>by have:=(R1.lt e).1;omega
          have Cz:=(HCT.out.below hb1 ml).grown hgz hne;have Oz:=(HOT.out.below hb1 HOT.out.lt).grown hgz hne0;have hKg:KT [3] w1 wz:=KT.refl.grown hO1 ZS hgz;have Bz:=(HBT.out.trans (hb1.mono HBT.out.size)).grown hgz (by have:=HBT.out.size;omega) (fun k' hk'=>by have:=(R1.lt hk').1;omega);have hRk:=hRz.imp (C':=CPhN W D w.heap.size wz) fun _ _ h=>h.kt hKg ZS
          have tz:=Cz.cell 1;have tzf:=Cz.frozen 1;have tzl:=Cz.lt;simp at tz;have HCZ:=Lh Cz;have HOZ:=Lh Oz;have HBZ:=Lh Bz;have HRK:=Lh hRk;clear Cz Oz Bz hRk hKg hne hne0 hRz hgz hO1 hD1 R1 hK1 ho9 bxN hb1 m1 t0 t1 t2;go_wp2_with(at_builtin;go_loud (refine YmN rfl _ _ 55 rfl rfl rfl hrz ?_));go_roundw
          case rel=>
           have hKs:KT [3,64] wz (wz.setCell ⟨wi.heap.size+1,1,none⟩ (.slice Az ((YmF x y (F.blk n) k).length+1) cz)):=KT.refl.setCell HCZ.out ZS _;refine⟨k+1,.slice Az ((YmF x y (F.blk n) k).length+1) cz,ZN,hkl,by simpa using HCZ.out.set 1 (.slice Az ((YmF x y (F.blk n) k).length+1) cz),HOZ.out.other (p:=⟨wi.heap.size+1,1,none⟩) ZS _,?_,HBZ.out.setCell ZS _⟩;rw[HE.out];exact HRK.out.kt hKs ZS fun _ _ h=>h.kt hKs ZS
          case measure=>simp[intOf];omega
     · as_aux_lemma=>
       obtain rfl:k=(F.blk n).phis.length:=by omega
       obtain⟨wj,rfl⟩:∃wj:World,wj=wr:=⟨_,rfl⟩;have HPQ:=Lh (show psB x y (F.blk n)=⟨(F.blk n).name,YmF x y (F.blk n) (F.blk n).phis.length,psIk x y (F.blk n) (F.blk n).insts.length,clT (sbI x y) (F.blk n).term⟩from Ynp);have hple2:(YmF x y (F.blk n) (F.blk n).phis.length).length≤100000:=Nat.le_trans YmV ZO;generalize YmF x y (F.blk n) (F.blk n).phis.length=PL at *;have p2:=hO.cell 2;have pl:=hO.lt;simp at p2;clear hC hO hP hbi hBr hWi HWI HD3 HR3;go_wp2_with fail;clear p2 pl
       go_loopw[62] (fun s wr=>∃(k:Nat) (vin:Value),s=.int .i64 k∧k≤(F.blk n).insts.length∧BoxAt wr (wi.heap.size+1) #[.string (F.blk n).name,.slice Ap PL.length cp,vin,.int .i64 (F.blk n).term.kind,.int .i64 (F.blk n).term.var,.int .i64 (F.blk n).term.t0,.int .i64 (F.blk n).term.t1] 62∧BoxAt wr wi.heap.size #[.string (F.blk n).name,.slice A3 (F.blk n).phis.length c3,.slice A4 (F.blk n).insts.length c4,.int .i64 (F.blk n).term.kind,.int .i64 (F.blk n).term.var,.int .i64 (F.blk n).term.t0,.int .i64 (F.blk n).term.t1] 62∧RRow wr (wi.heap.size+2) 64 3 (CPhN W D w.heap.size wr) (.slice Ap PL.length cp) PL∧RRow wr (wi.heap.size+2) 67 4 (CInN w.heap.size wr) vin (psIk x y (F.blk n) k)∧Below wi.heap.size wi wr) (fun s _=>(F.blk n).insts.length-(intOf s).toNat)
       case atStart=>exact⟨0,_,rfl,Nz _,HC.out,HO.out,HP.out,RRow.nil,HBI.out⟩
       case round=>as_aux_lemma=>
        clear HC HO HP HBI;obtain⟨k,vin,rfl,hk,hC,hO,hP,hJ,hbi⟩:=hrel;have hBr:Below w.heap.size w wr:=HB.out.trans (hbi.mono HB.out.size);have hWi:Below W.heap.size W wr:=hW.trans (hBr.mono hWs);obtain⟨Aj,cj,rfl⟩:=hJ.form
        by_cases hkl:k<(F.blk n).insts.length
        · as_aux_lemma=>
          obtain⟨bp,op,A5,c5,e3,hbp,hp0,hp1,hp2,hp3,l5,k5,r5⟩:=HR4.out.inst hWi hkl;have hplen:=HN.out.args _ (YG hlt) _ (Ybe hkl);have HPY:=Lh (Ynn (x:=x) (y:=y) hkl);have HPN:=Lh (Yno (x:=x) (y:=y) hkl);generalize (F.blk n).inst k=ph at *;unfold Len at l5;have HPT:=Lh (fun(w':World) (h:Below W.heap.size W w')=>YmJ (c:=c5) x y r5 ZO h);obtain⟨ws,rfl⟩:∃ws:World,ws=wr:=⟨_,rfl⟩;obtain⟨wT,hwT⟩:∃wT:World,wT=ws.alloc (.cells #[.int .i64 ph.op,.int .i64 ph.dst,.slice A5 ph.args.length c5,.int .i64 ph.num] 67):=⟨_,rfl⟩;have hbT:Below ws.heap.size ws wT:=by rw[hwT];exact YaP _ _
          have hXT:BoxAt wT ws.heap.size #[.int .i64 ph.op,.int .i64 ph.dst,.slice A5 ph.args.length c5,.int .i64 ph.num] 67:=by rw[hwT];exact BoxAt.new _ _ _
          have hKT:=KT.of_below hbT (ts:=[3,64,67]);have HQ:=Lh (fun b (hb:(Value.slice Aj (psIk x y (F.blk n) k).length cj).ownBlock=some b)=>(hJ.lt hb).2);have hwis:wi.heap.size+1<ws.heap.size:=hC.lt;have hCT:=hC.below hbT hC.lt;have HOT:=Lh (hO.below hbT hO.lt);have HPT2:=Lh (hP.kt hKT ZS fun _ _ h=>h.kt hKT ZS);have HJT:=Lh (hJ.kt hKT ZS fun _ _ h=>h.kt hKT ZS);have HBT:=Lh (hbi.trans (hbT.mono hbi.size));have HWT:=Lh (hWi.trans (hbT.mono hWi.size));have t1:=hXT.cell 1;have t2:=hXT.cell 2;have tl:=hXT.lt;simp at t1 t2;have HXT:=Lh hXT;have HCT:=Lh hCT;subst e3;clear hC hO hP hJ hbi hBr hWi r5 hbT hXT hCT hKT
          go_upto_region 15 with fail
          go_loud (rw[← hwT])
          clear hwT hp0 hp1 hp2 hp3
          by_cases he:ph.dst=x
          · as_aux_lemma=>
            have d0:(ph.dst !=x)=false:=by rw[bne_eq_false_iff_eq];exact he
            have HE:=Lh (HPN.out he);clear he;go_wp2_with fail;go_roundw
            case rel=>exact⟨k+1,_,ZN,hkl,HCT.out,HOT.out,HPT2.out,by rw[HE.out];exact HJT.out,HBT.out⟩
            case measure=>simp[intOf];omega
          · as_aux_lemma=>
            have d0:(ph.dst !=x)=true:=by rw[bne_iff_ne];exact he
            have HE:=Lh (HPY.out he);have hkk:(psIk x y (F.blk n) k).length≤100000:=Nat.le_trans YmW ZO;clear he
            go_upto_region 17 with(go_at_call 57;refine(HPT.out _ HWT.out).mono ?_;rintro e w9 ⟨⟨v9,rfl,ho9⟩,hb9⟩;obtain⟨A9,c9,rfl⟩:=Yh ho9;have X9:=HXT.out.below hb9 tl;have xf:=X9.frozen 2;have xl:=X9.lt;have x2:=X9.cell 2;simp at x2)
            obtain⟨wS,hwS⟩:∃wS:World,wS=w9.setCell ⟨ws.heap.size,2,none⟩ (.slice A9 ph.args.length c9):=⟨_,rfl⟩
            go_loud (rw[← hwS])
            have hK9:=KT.of_below hb9 (ts:=[3,64,67]);have hKS:KT [3,64] w9 wS:=by rw[hwS];exact KT.refl.setCell X9 ZS _
            have XS:BoxAt wS ws.heap.size #[.int .i64 ph.op,.int .i64 ph.dst,.slice A9 ph.args.length c9,.int .i64 ph.num] 67:=by rw[hwS];simpa using X9.set 2 (.slice A9 ph.args.length c9)
            have CS:BoxAt wS (wi.heap.size+1) #[.string (F.blk n).name,.slice Ap PL.length cp,.slice Aj (psIk x y (F.blk n) k).length cj,.int .i64 (F.blk n).term.kind,.int .i64 (F.blk n).term.var,.int .i64 (F.blk n).term.t0,.int .i64 (F.blk n).term.t1] 62:=by rw[hwS];exact(HCT.out.below hb9 HCT.out.lt).other (p:=⟨ws.heap.size,2,none⟩) ZX _
            have OS:=(HOT.out.below hb9 HOT.out.lt).other (p:=⟨ws.heap.size,2,none⟩) ZX (.slice A9 ph.args.length c9);rw[← hwS]at OS;have PS:=(HPT2.out.kt hK9 ZS fun _ _ h=>h.kt hK9 ZS).kt hKS ZS fun _ _ h=>h.kt hKS ZS
            have JS:RRow wS (wi.heap.size+2) 67 4 (CInN w.heap.size wS) (.slice Aj (psIk x y (F.blk n) k).length cj) (psIk x y (F.blk n) k):=RRow.turn (C:=CInN w.heap.size w9) (HJT.out.kt hK9 ZS fun _ _ h=>h.kt hK9 ZS) (fun b hb=>by rw[hwS];exact Ycv (by have:=HQ.out b hb;simp;omega)) fun _ _ h=>h.kt hKS ZS
            have oS:=YbJ ho9 hKS ZS;have BS:Below wi.heap.size wi wS:=by rw[hwS];exact(HBT.out.trans (hb9.mono HBT.out.size)).setCell ZX _
            have hsS:wS.heap.size=w9.heap.size:=by rw[hwS];simp
            have hs9:=hb9.size;obtain⟨wN,hwN⟩:∃wN:World,wN=wS.alloc (.cells #[.int .i64 ph.op,.int .i64 ph.dst,.slice A9 ph.args.length c9,.int .i64 ph.num] 67):=⟨_,rfl⟩;have hbN:Below wS.heap.size wS wN:=by rw[hwN];exact YaP _ _
            have XN:BoxAt wN wS.heap.size #[.int .i64 ph.op,.int .i64 ph.dst,.slice A9 ph.args.length c9,.int .i64 ph.num] 67:=by rw[hwN];exact BoxAt.new _ _ _
            have hKN:=KT.of_below hbN (ts:=[3,64,67]);have R1:=JS.kt hKN ZS fun _ _ h=>h.kt hKN ZS
            have oN:=YA oS hbN;have hD1:DRow wN (fun _=>True) 4 (CInN w.heap.size wN) (.slice (some ⟨wS.heap.size,0,none⟩) 1 1) [clI (sbI x y) ph]:=Yhl (cs:=[.int .i64 ph.op,.int .i64 ph.dst,.slice A9 ph.args.length c9,.int .i64 ph.num]) XN rfl ⟨_,rfl,DInts.of_own oN ZO fun b hb e=>⟨YaM oN ZS b hb e,ZO⟩⟩;have hml:=hbN.size;obtain⟨Az,cz,wz,hrz,hRz,hgz,-⟩:=Yhb (P:=Tryz.prog) (base:=wi.heap.size+2) (t:=56) (ty:=56) 4 48 Tryz.underlying56 Tryz.info67 rfl ZD ZD R1 hD1 (fun _ _ h=>Ynj h) ZX ZO;simp only[List.length_cons,List.length_nil,Nat.zero_add]at hrz hRz;obtain⟨cells,hO1⟩:=R1.own;have hne:(Value.slice Aj (psIk x y (F.blk n) k).length cj).ownBlock≠some (wi.heap.size+1):=fun e=>by have:=(R1.lt e).1;omega
            have hne0:(Value.slice Aj (psIk x y (F.blk n) k).length cj).ownBlock≠some wi.heap.size:=fun e=>by have:=(R1.lt e).1;omega
            have Cz:=(CS.below hbN CS.lt).grown hgz hne;have Oz:=(OS.below hbN OS.lt).grown hgz hne0;have hKg:KT [3,64] wN wz:=KT.refl.grown hO1 ZS hgz;have Bz:=(BS.trans (hbN.mono BS.size)).grown hgz (by have:=BS.size;omega) (fun k' hk'=>by have:=(R1.lt hk').1;omega);have HRK:=Lh (hRz.imp (C':=CInN w.heap.size wz) fun _ _ h=>h.kt hKg ZS);have HPK:=Lh ((PS.kt hKN ZS fun _ _ h=>h.kt hKN ZS).kt hKg ZS fun _ _ h=>h.kt hKg ZS);have s0:=XS.cell 0;have s1:=XS.cell 1;have s2:=XS.cell 2;have s3:=XS.cell 3;have sl:=XS.lt;have u2:=CS.cell 2;have ul:=CS.lt;have tz:=Cz.cell 2;have tzf:=Cz.frozen 2;have tzl:=Cz.lt;simp at s0 s1 s2 s3 u2 tz;have HCZ:=Lh Cz;have HOZ:=Lh Oz;have HBZ:=Lh Bz;rw[hwN]at hrz;clear hwS X9 xf xl x2 XS CS OS PS JS oS BS hsS hs9 hwN hbN XN hKN R1 oN hD1 hml hRz hO1 hne hne0 Cz Oz hKg Bz hgz hK9 hKS ho9 hb9 t1 t2 tl HXT HCT HOT HPT2 HJT HBT HWT HPT HQ;go_wp2_with(at_builtin;go_loud (refine YmN rfl _ _ 56 rfl rfl rfl hrz ?_));go_roundw
            case rel=>
             have hKs:KT [3,64,67] wz (wz.setCell ⟨wi.heap.size+1,2,none⟩ (.slice Az ((psIk x y (F.blk n) k).length+1) cz)):=KT.refl.setCell HCZ.out ZS _;refine⟨k+1,.slice Az ((psIk x y (F.blk n) k).length+1) cz,ZN,hkl,by simpa using HCZ.out.set 2 (.slice Az ((psIk x y (F.blk n) k).length+1) cz),HOZ.out.other (p:=⟨wi.heap.size+1,2,none⟩) ZS _,HPK.out.kt hKs ZS fun _ _ h=>h.kt hKs ZS,?_,HBZ.out.setCell ZS _⟩;rw[HE.out];exact HRK.out.kt hKs ZS fun _ _ h=>h.kt hKs ZS
            case measure=>simp[intOf];omega
        · as_aux_lemma=>
          obtain rfl:k=(F.blk n).insts.length:=by omega
          obtain⟨wq,rfl⟩:∃wq:World,wq=wr:=⟨_,rfl⟩;have hile:(psIk x y (F.blk n) (F.blk n).insts.length).length≤100000:=Nat.le_trans YmW ZO;generalize psIk x y (F.blk n) (F.blk n).insts.length=IL at *;have b3:=hO.cell 3;have b4:=hO.cell 4;have bl:=hO.lt;have m3:=hC.frozen 4;have m4:=hC.cell 4;have ml:=hC.lt;simp at b3 b4 m4;have HC:=Lh hC;have HP:=Lh hP;have HJ:=Lh hJ;have HBI:=Lh hbi;clear hC hO hP hJ hbi hBr hWi HR4
          go_upto_region 19 with fail
          obtain⟨th,hth⟩:∃th:Bool,((F.blk n).term.kind !=0&&(F.blk n).term.var==x)=th:=⟨_,rfl⟩;have HTH:=Lh hth;clear hth
          go_cut[93] (fun s wx=>s=.bool th∧wx=wq)
          case first=>
           by_cases hk0:(F.blk n).term.kind=0
           · as_aux_lemma=>
             have d0:((F.blk n).term.kind !=0)=false:=by rw[bne_eq_false_iff_eq];exact hk0
             have HD0:=Lh d0;clear hk0;go_wp2_with fail
             go_meet
             exact⟨by rw[← HTH.out,HD0.out];rfl,rfl⟩
           · have d0:((F.blk n).term.kind !=0)=true:=by rw[bne_iff_ne];exact hk0
             have HD0:=Lh d0
             by_cases hv:(F.blk n).term.var=x
             · as_aux_lemma=>
               have d1:((F.blk n).term.var==x)=true:=by rw[beq_iff_eq];exact hv
               have HD1:=Lh d1;clear hk0 hv;go_wp2_with fail
               go_meet
               exact⟨by rw[← HTH.out,HD0.out,HD1.out];rfl,rfl⟩
             · as_aux_lemma=>
               have d1:((F.blk n).term.var==x)=false:=by rw[beq_eq_false_iff_ne];exact hv
               have HD1:=Lh d1;clear hk0 hv;go_wp2_with fail
               go_meet
               exact⟨by rw[← HTH.out,HD0.out,HD1.out];rfl,rfl⟩
          case rest=>as_aux_lemma=>
           obtain⟨rfl,hw⟩:=hcut;obtain rfl:=hw.symm
           go_upto_if 93 with fail
           go_cut[23] (fun s wx=>s=.int .i64 n∧BoxAt wx (wi.heap.size+1) #[.string (F.blk n).name,.slice Ap PL.length cp,.slice Aj IL.length cj,.int .i64 (clT (sbI x y) (F.blk n).term).kind,.int .i64 (clT (sbI x y) (F.blk n).term).var,.int .i64 (clT (sbI x y) (F.blk n).term).t0,.int .i64 (clT (sbI x y) (F.blk n).term).t1] 62∧RRow wx (wi.heap.size+2) 64 3 (CPhN W D w.heap.size wx) (.slice Ap PL.length cp) PL∧RRow wx (wi.heap.size+2) 67 4 (CInN w.heap.size wx) (.slice Aj IL.length cj) IL∧Below wi.heap.size wi wx)
           case first=>
            cases th
            · as_aux_lemma=>
              have HT:=Lh (show clT (sbI x y) (F.blk n).term=(F.blk n).term by
               have h:=HTH.out;rw[Bool.and_eq_false_iff,bne_eq_false_iff_eq,beq_eq_false_iff_ne]at h;unfold clT;rcases h with h|h
               · rw[if_pos h]
               · unfold sbI
                 rw[if_neg h]
                 split<;>rfl)
              clear HTH;go_wp2_with fail
              go_meet
              exact⟨rfl,by rw[HT.out];exact HC.out,HP.out,HJ.out,HBI.out⟩
            · as_aux_lemma=>
              have HT:=Lh (show clT (sbI x y) (F.blk n).term={ (F.blk n).term with var:=y } by
               have h:=HTH.out;rw[Bool.and_eq_true,bne_iff_ne,beq_iff_eq]at h;unfold clT;rw[if_neg h.1,h.2];unfold sbI
               rw[if_pos rfl])
              clear HTH;go_wp2_with fail
              go_meet
              have hKs:KT [3,64,67] wq (wq.setCell ⟨wi.heap.size+1,4,none⟩ (.int .i64 y)):=KT.refl.setCell HC.out ZS _;refine⟨rfl,?_,HP.out.kt hKs ZS fun _ _ h=>h.kt hKs ZS,HJ.out.kt hKs ZS fun _ _ h=>h.kt hKs ZS,HBI.out.setCell ZS _⟩;rw[HT.out];simpa using HC.out.set 4 (.int .i64 y)
           case rest=>as_aux_lemma=>
            obtain⟨rfl,hC,hP,hJ,hbi⟩:=hcut;obtain⟨wz,rfl⟩:∃wz:World,wz=wc:=⟨_,rfl⟩;generalize clT (sbI x y) (F.blk n).term=T at *;have hKw:KT [3,64,67,62] wi wz:=KT.of_below hbi;have hRr:=HR.out.kt hKw ZS (fun _ _ h=>h.kt hKw ZS ZS ZS);obtain⟨cells,hOb⟩:=hRr.own;have hobb:=fun k' (hk':(Value.slice Ab ps.length cb).ownBlock=some k')=>(HR.out.lt hk').1
            have hgo:=HBX.out.below hbi HBX.out.lt;have o2:=hgo.cell 2;have ogl:=hgo.lt;simp at o2;have hwz:=hbi.size;have hCl:=hC.lt;have hcR:wz.rangeAt (wi.heap.size+1) 0 ([.string (F.blk n).name,.slice Ap PL.length cp,.slice Aj IL.length cj,.int .i64 T.kind,.int .i64 T.var,.int .i64 T.t0,.int .i64 T.t1]:List Value):=by
             have:=World.rangeAt_of_block (w:=wz) (b:=wi.heap.size+1) hC 0 7;simpa using this
            have huB:=Tryz.underlying62;have hinB:(Tryz.prog.info? 62).map (·.size)=some ([.string (F.blk n).name,.slice Ap PL.length cp,.slice Aj IL.length cj,.int .i64 T.kind,.int .i64 T.var,.int .i64 T.t0,.int .i64 T.t1]:List Value).length:=by kernel_rfl
            have HPR:=Lh hP;have HJR:=Lh hJ;have HRR:=Lh hRr;have HGO:=Lh hgo;have HBZ:=Lh hbi;have HOBB:=Lh hobb;have hpl64:ps.length≤100000:=by omega
            clear hP hJ hRr hgo hbi hobb hC hKw HC HP HJ HBI b3 b4 bl m3 m4 ml hk hkl
            go_wp2_with(first
             |(refine wpList_load_mid rfl 62 _ rfl (wi.heap.size+1) 0 rfl [.string (F.blk n).name,.slice Ap PL.length cp,.slice Aj IL.length cj,.int .i64 T.kind,.int .i64 T.var,.int .i64 T.t0,.int .i64 T.t1] _ hcR huB rfl hinB ?_)
             |(refine Ylp rfl _ _ _ rfl Tryz.underlying24 Tryz.info62 rfl ?_)
             |(at_builtin;refine Yc0 _ rfl _ _ 24 rfl (w.heap.size+3) 62 7 96 Tryz.underlying24 Tryz.info62 rfl ZD _ ps.length cells rfl hOb _ ZS #[.string (F.blk n).name,.slice Ap PL.length cp,.slice Aj IL.length cj,.int .i64 T.kind,.int .i64 T.var,.int .i64 T.t0,.int .i64 T.t1] rfl rfl (by intro u hu;simp at hu;rcases hu with rfl|rfl|rfl|rfl|rfl|rfl|rfl<;>rfl) ZO ZD ZO ?_
               intro v' w3 hown3 hg3 hfr3;obtain⟨Av,cv,hv3⟩:=Yh hown3;subst hv3;have hz3:=hg3.size;simp at hz3;have hgo3:=(HGO.out.alloc (.cells #[.string (F.blk n).name,.slice Ap PL.length cp,.slice Aj IL.length cj,.int .i64 T.kind,.int .i64 T.var,.int .i64 T.t0,.int .i64 T.t1] 62)).grown hg3 (fun e=>by have:=HOBB.out _ e;omega);have t3:=hgo3.cell 2;simp at t3;have t3f:=hgo3.frozen 2
               have t3l:=hgo3.lt))
            go_roundw
            case rel=>
             have hgg:(wz.alloc (.cells #[.string (F.blk n).name,.slice Ap PL.length cp,.slice Aj IL.length cj,.int .i64 T.kind,.int .i64 T.var,.int .i64 T.t0,.int .i64 T.t1] 62)).grownBy w3 (Value.slice Ab ps.length cb).ownBlock:=hg3;have hKz:KT [3,64,67] wz (w3.setCell ⟨w.heap.size+2,2,none⟩ (.slice Av (ps.length+1) cv)):=((KT.refl.alloc _).grown (hOb.alloc _) ZS hgg).setCell hgo3 ZS _;refine⟨n+1,.slice Av (ps.length+1) cv,ps++[(⟨(F.blk n).name,PL,IL,T⟩,.slice Ap PL.length cp,.slice Aj IL.length cj)],ZN,hlt,?_,?_,?_,?_,?_,?_⟩
             · show Hid (_=_)
               rw[List.map_append,HPS.out,List.take_add_one,PFunc.blk_get hlt,List.map_append];show _=_++[psB x y (F.blk n)];rw[HPQ.out];rfl
             · simpa using hgo3.set 2 (.slice Av (ps.length+1) cv)
             · exact(((HFX.out.below HBZ.out HFX.out.lt).alloc _).grown hgg (fun e=>by have:=HOBB.out _ e;omega)).other (p:=⟨w.heap.size+2,2,none⟩) ZS _
             · exact(((HRE.out.below HBZ.out HRE.out.lt).alloc _).grown hgg (fun e=>by have:=HOBB.out _ e;omega)).other (p:=⟨w.heap.size+2,2,none⟩) ZS _
             · refine RRow.snoc (cs:=[.string (F.blk n).name,.slice Ap PL.length cp,.slice Aj IL.length cj,.int .i64 T.kind,.int .i64 T.var,.int .i64 T.t0,.int .i64 T.t1]) HRR.out hOb (ownsRow_setCell_other hown3 (fun e=>by have h:=(Yn hown3 e).1;change w.heap.size+3≤w.heap.size+2 at h;omega) _) rfl (fun _ _ h=>h.kt hKz ZS ZS ZS) ?_
               refine⟨rfl,hnz,?_,?_⟩
               · exact(HPR.out.kt hKz ZS (fun _ _ h=>h.kt hKz ZS)).rebase ZO
               · exact(HJR.out.kt hKz ZS (fun _ _ h=>h.kt hKz ZS)).rebase ZO
             · exact(((HB.out.trans (HBZ.out.mono hzi)).alloc ZO _).grown hgg ZX (fun k' hk'=>by have:=HOBB.out _ hk';omega)).setCell ZX _
            case measure=>simp[intOf];omega
  · as_aux_lemma=>
    obtain rfl:n=F.blocks.length:=by omega
    have z0:=hbx.cell 0;have z1:=hbx.cell 1;have z2:=hbx.cell 2;have zl:=hbx.lt;have e0:=hre.cell 0;have e1:=hre.cell 1;have e2:=hre.cell 2;have f0:=hre.frozen 0;have f1:=hre.frozen 1;have f2:=hre.frozen 2;have el:=hre.lt;simp at z0 z1 z2 e0 e1 e2;have HBX:=Lh hbx;have HRE:=Lh hre;have HR:=Lh hR;have HB:=Lh hB;clear hbx hfx hre hR hB hWr;go_wp2;have hz:=HRE.out.set3 (a:=.slice A0 F.vars.length c0) (b:=.slice A1 F.params.length c1) (c:=.slice Ab ps.length cb);have z0:=hz.cell 0;have z1:=hz.cell 1;have z2:=hz.cell 2;simp only[List.getElem?_toArray,List.getElem?_cons_zero,List.getElem?_cons_succ]at z0 z1 z2;have hK:KT [3,64,67,62] wr (((wr.setCell ⟨w.heap.size+1,0,none⟩ (.slice A0 F.vars.length c0)).setCell ⟨w.heap.size+1,1,none⟩ (.slice A1 F.params.length c1)).setCell ⟨w.heap.size+1,2,none⟩ (.slice Ab ps.length cb)):=
     ((KT.refl.setCell HRE.out ZS _).setCell (HRE.out.set 0 _) ZS _).setCell ((HRE.out.set 0 _).set 1 _) ZS _
    have hBz:=((HB.out.setCell (p:=⟨w.heap.size+1,0,none⟩) ZS (.slice A0 F.vars.length c0)).setCell (p:=⟨w.heap.size+1,1,none⟩) ZS (.slice A1 F.params.length c1)).setCell (p:=⟨w.heap.size+1,2,none⟩) ZS (.slice Ab ps.length cb);have hWz:=hW.trans (hBz.mono hWs);have hfn:=Ynh (G:=psF x y F) HF.out hWz (HR.out.kt hK ZS fun _ _ h=>h.kt hK ZS ZS ZS) (HPS.out.trans (by rw[List.take_length];rfl)) rfl rfl HNG.out HDD.out HD0.out ZO;exact bodyPost_ret (v:=.agg #[.slice A0 F.vars.length c0,.slice A1 F.params.length c1,.slice Ab ps.length cb]) (by simp[results,Tryz.results56,go_sem,z0,z1,z2]) rfl ⟨⟨_,rfl,hfn⟩,hBz⟩
end Go.Proofs.YthhjlbflpjhahaaGreatDoor
