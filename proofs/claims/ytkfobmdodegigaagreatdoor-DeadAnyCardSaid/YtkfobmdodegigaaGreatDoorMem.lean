/- The plain law of Prune: what is left of a program without what isn't reached. -/
import Derived.Test.YtkfobmdodegigaaGreatDoorJoinQ
import Derived.Test.YtkfobmdodegigaaGreatDoorWays
import Derived.Test.YtkfobmdodegigaaGreatDoorSch
import Derived.Test.YtkfobmdodegigaaGreatDoorTreeP
import Derived.Test.YtkfobmdodegigaaGreatDoorMkRows
import Derived.Great.BuildSlice
import Derived.Deep.MidRow
import Derived.Deep.DeepCutAuto
import Derived.Deep.CutBlock
namespace Go.Proofs.YtkfobmdodegigaaGreatDoor
open Go.RowKit
set_option maxRecDepth 100000
def thB(F:PFunc)(i:Nat):Bool:=(marksL F.blocks.length (postO F).reverse).getD i false
def numP(F:PFunc):Nat→Nat
 |0=>0
 |i+1=>if thB F i=true then numP F i+1 else numP F i
def keepF(F:PFunc)(i:Nat)(a:Int):Bool:=leads (F.blk a.toNat).term (i:Int)&&thB F a.toNat
def prA(F:PFunc)(i:Nat)(x:PPhi):Nat→List Int
 |0=>[]
 |k+1=>if keepF F i (ith x.froms k)=true then prA F i x k++[ith x.args k] else prA F i x k
def prN(F:PFunc)(i:Nat)(x:PPhi):Nat→List Int
 |0=>[]
 |k+1=>if keepF F i (ith x.froms k)=true then prN F i x k++[(numP F (ith x.froms k).toNat:Int)] else prN F i x k
def prPhi(F:PFunc)(i:Nat)(x:PPhi):PPhi:={ dst:=x.dst,args:=prA F i x x.froms.length,froms:=prN F i x x.froms.length }
def prTerm(F:PFunc)(t:PTerm):PTerm:=
 if t.kind=0 then { t with t0:=(numP F t.t0.toNat:Int) } else if t.kind=1 then { t with t0:=(numP F t.t0.toNat:Int),t1:=(numP F t.t1.toNat:Int) } else t
def prBlk(F:PFunc)(i:Nat):PBlock:={ name:=(F.blk i).name,phis:=(F.blk i).phis.map (prPhi F i),insts:=(F.blk i).insts,term:=prTerm F (F.blk i).term }
def prBlks(F:PFunc):Nat→List PBlock
 |0=>[]
 |i+1=>if thB F i=true then prBlks F i++[prBlk F i] else prBlks F i
def prF(F:PFunc):PFunc:={ vars:=F.vars,params:=F.params,blocks:=prBlks F F.blocks.length }
section
variable {F:PFunc} {i k:Nat} {x:PPhi}
theorem ty_pr(v:Int):tyOf (prF F) v=tyOf F v:=rfl
theorem Bnd.small{G:PFunc}(h:Bnd G):Small G:=by
 refine⟨by have:=h.vars;omega,by have:=h.blocks;omega,fun i hi=>?_⟩;have:=h.parts _ (mem_of_blk hi);exact⟨ZO,ZO⟩
end
def Two(w:World)(B:Nat)(v1:Value)(xs:List Int)(v2:Value)(ys:List Int):Prop:=
 w.ownsRow B 3 1 v1 xs.length (xs.map (Value.int .i64))∧w.ownsRow B 3 1 v2 ys.length (ys.map (Value.int .i64))∧∀k,v1.ownBlock=some k→v2.ownBlock≠some k
section
variable {w w':World} {B:Nat} {v1 v2:Value} {xs ys:List Int} {x:Int} {N:Nat}
end
theorem Tryz.info70:(Tryz.prog.info? 70).map (fun i=>(i.zero,i.size,i.bytes))=some (some (.agg #[.string ByteArray.empty,.int .i64 0]),2,24):=by kernel_rfl
def cellsV(x:PVar):List Value:=[.string x.name,.int .i64 x.ty]
theorem cellsV_flat{xs:List PVar}:(xs.map cellsV).flatten.length=xs.length*2:=by
 rw[List.length_flatten,List.map_map]
 induction xs with
 |nil=>rfl
 |cons x xs ih=>simp only[List.map_cons,List.sum_cons,List.length_cons,ih,Function.comp];simp[cellsV];omega
set_option maxHeartbeats 2000000 in
theorem cloneV_calls{B:Nat}{w:World}{A:Option Addr}{c:Nat}{xs:List PVar}(hr:Rd B A xs 2 (VarC w))(hl:xs.length≤1048576) :
 Calls Tryz.prog 67 #[.slice A xs.length c] w fun e w'=>∃v',e=.returned v'∧RRow w' w.heap.size 70 2 CVar v' xs∧Below w.heap.size w w':=by
 have q22:∀(w:World) (a:Option Addr) (n c n' c':Nat),(binOp .eql 22 (.slice a n c) (.slice none n' c')).run Tryz.prog w=.ok (.bool a.isNone) w:=fun w a n c n' c'=>Lib.run_eql_slice_nil w _ _ a n c n' c' Tryz.underlying22
 cases A with
 |none=>
  have hx:xs=[]:=by
   cases xs with
   |nil=>rfl
   |cons x xs=>
    obtain⟨b,off,h,-⟩:=hr 0 x rfl;cases h
  subst hx;clear hr;go_enter Tryz.func67,Tryz.ntmps67;go_wp2;go_ret;exact⟨_,rfl,RRow.nil,Br _ _⟩
 |some a=>
  obtain⟨i0,hi,hz0,hz1,hz2⟩:=info_parts Tryz.info70;have hc:∀j u,(xs.map cellsV).flatten[j]?=some u→w.cell? (a.add j)=some u:=by
   intro j u hj;have hjl:=(List.getElem?_eq_some_iff.1 hj).1;rw[cellsV_flat]at hjl;obtain⟨i,k,hk,rfl⟩:∃i k,k<2∧j=i*2+k:=⟨j / 2,j%2,Nat.mod_lt _ ZD,ZO⟩;have hix:xs[i]?=some (xs[i]'(ZO)):=by simp
   obtain⟨b,off,ha,hb,hn,h0,h1⟩:=hr i _ hix;cases ha;rw[flat_at (sz:=2) (i:=i) (j:=k) (cs:=cellsV (xs[i]'(ZO))) (fun c hc=>by simp at hc;obtain⟨x,-,rfl⟩:=hc;rfl) (by rw[List.getElem?_map,hix];rfl) hk]at hj;rw[Addr.add_lit];rcases(show k=0∨k=1 from ZO)with rfl|rfl
   · rw[Nat.add_zero,h0];simpa[cellsV]using hj
   · rw[show off+(i*2+1)=off+i*2+1 from ZO,h1];simpa[cellsV]using hj
  have h1:∀u∈(xs.map cellsV).flatten,u.oneCell'=true:=by
   intro u hu;obtain⟨c,hc,hu⟩:=List.mem_flatten.1 hu;obtain⟨x,-,rfl⟩:=List.mem_map.1 hc;simp[cellsV]at hu;rcases hu with rfl|rfl<;>rfl
  have hlen:=cellsV_flat (xs:=xs);have hbv:∀(i:Nat) cs x,(xs.map cellsV)[i]?=some cs→xs[i]?=some x→cs.length=2∧CVar cs x:=by
   intro i cs x h1 h2;obtain⟨b,off,ha,hb,hn,-⟩:=hr i x h2;simp[h2]at h1;subst h1;exact⟨rfl,hn,rfl⟩
  replace hbv:=Lh hbv;have HC:=Lh hc;clear hr hc;have HLC:=Lh (show(xs.map cellsV).length=xs.length from ZS);generalize (xs.map cellsV)=ch at *;generalize hcells:ch.flatten=cells at *;have HCL:=Lh hcells;clear hcells;go_enter Tryz.func67,Tryz.ntmps67;go_wp2_with(at_builtin;refine wpList_append_own _ rfl _ _ 22 rfl w.heap.size 70 i0 _ 2 24 Tryz.underlying22 hi hz0 hz1 hz2 rfl ZD _ _ _ rfl (World.ownsRow_made w #[] 0 (Nr _) (Nz _) ZS) a xs.length c cells rfl hlen ?qc2 h1 (by unfold maxLen;omega) ZO ZS ?_)
  case qc2=>
   intro j u hj;exact Lib.cell?_alloc_some _ (HC.out j u hj)
  intro v' w1 hown hgrow hnil;go_wp2;go_ret;refine⟨v',rfl,⟨ch,HLC.out,hbv.out,?_⟩,?_⟩
  · rw[HCL.out];simpa using hown
  · exact((Br _ w).alloc (Nr _) _).grown hgrow ZS (by intro k hk;simp[Value.ownBlock]at hk;omega)
theorem Rd.moveV{W w:World}{A:Option Addr}{xs:List PVar}(h:Rd W.heap.size A xs 2 (VarC W))(hw:Below W.heap.size W w):Rd w.heap.size A xs 2 (VarC w):=by
 intro i x hx;obtain⟨b,off,ha,hb,hn,h0,h1⟩:=h i x hx;exact⟨b,off,ha,Nt hb hw.size,hn,(hw.cell (p:=⟨b,off+i*2,none⟩) hb).trans h0,(hw.cell (p:=⟨b,off+i*2+1,none⟩) hb).trans h1⟩
theorem Rd.moveB{W w:World}{A:Option Addr}{xs:List Int}(h:Rd W.heap.size A xs 1 (IntC W))(hw:Below W.heap.size W w):Rd W.heap.size A xs 1 (IntC w):=by
 intro i x hx;obtain⟨b,off,ha,hb,hr⟩:=h i x hx;refine⟨b,off,ha,hb,?_⟩;unfold IntC at *;rw[hw.cell (p:=⟨b,off+i*1,none⟩) hb];exact hr
def NT(ts:List TypeId)(w:World)(b:Nat):Prop:=∃cs t,w.heap[b]?=some (.cells cs t (0,0))∧t∈ts
theorem own_nt{w:World}{base e sz n:Nat}{v:Value}{xs:List Value}{ts:List TypeId}(h:w.ownsRow base e sz v n xs)(he:e∈ts):∀b,base≤b→v.ownBlock=some b→NT ts w b:=by
 intro b _ hb;rcases h.2 with⟨rfl,-⟩|⟨g,cap,cur,rfl,-,hh,-⟩
 · cases hb
 · cases hb
   exact⟨cur,e,hh,he⟩
structure KT (ts:List TypeId) (w w':World):Prop where
 size:w.heap.size≤w'.heap.size
 blk:∀b,NT ts w b→w'.heap[b]?=w.heap[b]?
section
variable {ts ts':List TypeId} {a w w':World}
theorem NT.lt{b:Nat}(h:NT ts w b):b<w.heap.size:=by
 obtain⟨cs,t,h,-⟩:=h;exact(Array.getElem?_eq_some_iff.1 h).1
theorem NT.mono{b:Nat}(h:NT ts w b)(hs:∀t∈ts,t∈ts'):NT ts' w b:=by
 obtain⟨cs,t,h,ht⟩:=h;exact⟨cs,t,h,hs t ht⟩
theorem NT.same{b:Nat}(h:NT ts w b)(hs:w'.heap[b]?=w.heap[b]?):NT ts w' b:=by
 obtain⟨cs,t,h,ht⟩:=h;exact⟨cs,t,hs.trans h,ht⟩
theorem KT.refl:KT ts w w:=⟨Nr _,fun _ _=>rfl⟩
theorem KT.trans(h:KT ts a w)(h':KT ts w w'):KT ts a w':=⟨Nat.le_trans h.size h'.size,fun b hb=>(h'.blk b (hb.same (h.blk b hb))).trans (h.blk b hb)⟩
theorem KT.of_below(h:Below w.heap.size w w'):KT ts w w':=⟨h.size,fun b hb=>h.block b hb.lt⟩
theorem KT.alloc(h:KT ts a w)(o:Obj):KT ts a (w.alloc o):=h.trans (KT.of_below ((Br _ _).alloc (Nr _) _))
theorem KT.setCell(h:KT ts a w){g j:Nat}{cs:Array Value}{t:TypeId}(hg:BoxAt w g cs t)(ht:t∉ts)(v:Value):KT ts a (w.setCell ⟨g,j,none⟩ v):=
 h.trans ⟨ZS,fun b hb=>heap_set (by
  rintro rfl;obtain⟨cs',t',h1,h2⟩:=hb;unfold BoxAt at hg;rw[hg]at h1;cases h1
  exact ht h2)⟩
theorem KT.grown(h:KT ts a w){base e sz n:Nat}{v:Value}{xs:List Value}(ho:w.ownsRow base e sz v n xs)(he:e∉ts)(hg:w.grownBy w' v.ownBlock):KT ts a w':=
 h.trans ⟨hg.size,fun b hb=>hg.block b hb.lt (fun e2=>by
  obtain⟨cs',t',h1,h2⟩:=hb;rcases ho.2 with⟨rfl,-⟩|⟨g,cap,cur,rfl,-,hh,-⟩
  · cases e2
  · cases e2
    rw[hh]at h1;cases h1
    exact he h2)⟩
theorem KT.tr(h:KT ts w w')(hs:∀t∈ts',t∈ts):Tr (NT ts' w) (NT ts' w') w w':=⟨h.size,fun b hb _=>⟨h.blk b (hb.mono hs),hb.same (h.blk b (hb.mono hs))⟩⟩
theorem RRow.kt{α:Type}{base sz:Nat}{e:TypeId}{C C':List Value→α→Prop}{v:Value}{xs:List α}(h:RRow w base e sz C v xs)(hk:KT ts w w')(he:e∈ts)(hC:∀cs x,C cs x→C' cs x):RRow w' base e sz C' v xs:=by
 obtain⟨cells,ho⟩:=h.own;exact h.turn (fun k hv=>hk.blk k (own_nt ho he k (own_lt ho hv).1 hv)) hC
end
theorem own_kt{ts:List TypeId}{w w':World}{base e sz n:Nat}{v:Value}{xs:List Value}(h:w.ownsRow base e sz v n xs)(hk:KT ts w w')(he:e∈ts):w'.ownsRow base e sz v n xs:=
 own_turn h fun k hv=>hk.blk k (own_nt h he k (own_lt h hv).1 hv)
theorem take_phi{b:PBlock}{k:Nat}(h:k<b.phis.length):b.phis.take (k+1)=b.phis.take k++[b.phi k]:=by
 rw[List.take_add_one,PBlock.phi_get h];rfl
theorem take_inst{b:PBlock}{k:Nat}(h:k<b.insts.length):b.insts.take (k+1)=b.insts.take k++[b.inst k]:=by
 rw[List.take_add_one,PBlock.inst_get h];rfl
theorem Tryz.info81:(Tryz.prog.info? 81).map (fun i=>(i.zero,i.size,i.bytes))=some (some (.agg #[.int .i64 0,.slice none 0 0,.slice none 0 0]),3,56):=by kernel_rfl
theorem Tryz.info49:(Tryz.prog.info? 49).map (fun i=>(i.zero,i.size,i.bytes))=some (some (.agg #[.int .i64 0,.int .i64 0,.slice none 0 0,.int .i64 0]),4,48):=by kernel_rfl
theorem Tryz.info46:(Tryz.prog.info? 46).map (fun i=>(i.zero,i.size,i.bytes))=some (some (.agg #[.string ByteArray.empty,.slice none 0 0,.slice none 0 0,.int .i64 0,.int .i64 0,.int .i64 0,.int .i64 0]),7,96):=by kernel_rfl
def CPh(w:World):List Value→PPhi→Prop:=CPhi w (NT [3] w)
def CIn(w:World):List Value→PInst→Prop:=CInst w (NT [3] w)
def CBO(w:World)(base:Nat)(cs:List Value)(x:PBlock×Value×Value):Prop:=
 cs=[.string x.1.name,x.2.1,x.2.2,.int .i64 x.1.term.kind,.int .i64 x.1.term.var,.int .i64 x.1.term.t0,.int .i64 x.1.term.t1]∧x.1.name.size≤maxLen∧
  RRow w base 81 3 (CPh w) x.2.1 x.1.phis∧RRow w base 49 4 (CIn w) x.2.2 x.1.insts
theorem CPh.kt{ts:List TypeId}{w w':World}(hk:KT ts w w')(hi:3∈ts){cs:List Value}{x:PPhi}(h:CPh w cs x):CPh w' cs x:=CPhi.turn h (hk.tr (by simpa using hi))
theorem CIn.kt{ts:List TypeId}{w w':World}(hk:KT ts w w')(hi:3∈ts){cs:List Value}{x:PInst}(h:CIn w cs x):CIn w' cs x:=CInst.turn h (hk.tr (by simpa using hi))
theorem CBO.kt{ts:List TypeId}{w w':World}{base:Nat}(hk:KT ts w w')(hi:3∈ts)(hp:81∈ts)(hn:49∈ts){cs:List Value}{x:PBlock×Value×Value}(h:CBO w base cs x):CBO w' base cs x:=
 ⟨h.1,h.2.1,h.2.2.1.kt hk hp fun _ _ h=>h.kt hk hi,h.2.2.2.kt hk hn fun _ _ h=>h.kt hk hi⟩
theorem CBO.rebase{w:World}{B base:Nat}{cs:List Value}{x:PBlock×Value×Value}(h:CBO w base cs x)(hB:B≤base):CBO w B cs x:=⟨h.1,h.2.1,h.2.2.1.rebase hB,h.2.2.2.rebase hB⟩
def Before(x y:PBlock×Value×Value):Prop:=(∀k l,x.2.1.ownBlock=some k→y.2.1.ownBlock=some l→k<l)∧∀k l,x.2.2.ownBlock=some k→y.2.2.ownBlock=some l→k<l
def bcells(F:PFunc)(n:Nat)(A3:Option Addr)(c3:Nat)(A4:Option Addr)(c4:Nat):Array Value:=#[.string (F.blk n).name,.slice A3 (F.blk n).phis.length c3,.slice A4 (F.blk n).insts.length c4,.int .i64 (F.blk n).term.kind,.int .i64 (F.blk n).term.var,.int .i64 (F.blk n).term.t0,.int .i64 (F.blk n).term.t1]
theorem RRow.all_{α:Type}{w:World}{base sz:Nat}{e:TypeId}{C:List Value→α→Prop}{v:Value}{xs:List α}(h:RRow w base e sz C v xs):∀x∈xs,∃cs,C cs x:=by
 obtain⟨ch,hl,hc,-⟩:=h;intro x hx;obtain⟨i,hi,rfl⟩:=List.getElem_of_mem hx;exact⟨ch[i]'(ZO),(hc i _ _ (by simp[hl,hi]) (by simp[hi])).2⟩
theorem fill7(z0 z1 z2 z3 z4 z5 z6 a0 a1 a2 a3 a4 a5 a6:Value):Instr.fill (fun i=>some (i*7,7)) ((Array.range (1*7)).map ((Value.agg #[z0,z1,z2,z3,z4,z5,z6]).cells[·%(Value.agg #[z0,z1,z2,z3,z4,z5,z6]).cells.size]!)) [(0,.agg #[a0,a1,a2,a3,a4,a5,a6])]=some #[a0,a1,a2,a3,a4,a5,a6]:=by
 kernel_rfl
theorem wpList_one7{P:Program}{ops:Array Oper}{rest:List Oper}{o:Oper}{a:Act}{w:World}{Q:Exit→Act→World→Prop}(hg:o.guard=none)(t e:TypeId)(x:Operand)(ho:o.op=.buildSlice t 1 #[(0,x)]){by_:Nat}{z0 z1 z2 z3 z4 z5 z6 a0 a1 a2 a3 a4 a5 a6:Value}
 (hu:P.underlying t=some (.slice e)) (hinf:(P.info? e).map (fun i=>(i.zero,i.size,i.bytes))=some (some (.agg #[z0,z1,z2,z3,z4,z5,z6]),7,by_)) (hx:a.eval x=.agg #[a0,a1,a2,a3,a4,a5,a6])
 (h:wpList P ops Q rest (a.put o.dst (.slice (some ⟨w.heap.size,0,none⟩) 1 1)) (w.alloc (.cells #[a0,a1,a2,a3,a4,a5,a6] e))):wpList P ops Q (o::rest) a w:=by
 obtain⟨i,hi,hz,hsz,-⟩:=info_parts hinf;refine Go.wpList_buildSlice hg t e 1 #[(0,x)] ho #[a0,a1,a2,a3,a4,a5,a6] i _ hu hi hz (by rw[hsz];decide) (by rw[hsz];decide) ?_ h;rw[hsz];simp only[List.map_toArray,List.map_cons,List.map_nil,hx];exact fill7 z0 z1 z2 z3 z4 z5 z6 a0 a1 a2 a3 a4 a5 a6
theorem phis_of{w:World}{base:Nat}{v:Value}{xs:List PPhi}(h:RRow w base 81 3 (CPh w) v xs)(hn:xs.length≤1048576):SPhis w w.heap.size v xs:=
 DRow.rd (h.done (D:=fun _=>True) hn (fun _ _ _=>trivial)) (fun _ h _=>h) fun b o cs x _ _ hc e=>by
  obtain⟨v1,v2,rfl,h1,h2⟩:=e;exact⟨hc 0 _ rfl,⟨v1,hc 1 _ rfl,h1.rd fun _ h _=>h⟩,v2,hc 2 _ rfl,h2.rd fun _ h _=>h⟩
theorem insts_of{w:World}{base:Nat}{v:Value}{xs:List PInst}(h:RRow w base 49 4 (CIn w) v xs)(hn:xs.length≤1048576):SInsts w w.heap.size v xs:=
 DRow.rd (h.done (D:=fun _=>True) hn (fun _ _ _=>trivial)) (fun _ h _=>h) fun b o cs x _ _ hc e=>by
  obtain⟨v1,rfl,h1⟩:=e;exact⟨hc 0 _ rfl,hc 1 _ rfl,⟨v1,hc 2 _ rfl,h1.rd fun _ h _=>h⟩,hc 3 _ rfl⟩
theorem blks_of{w:World}{base:Nat}{v:Value}{ps:List (PBlock×Value×Value)}(h:RRow w base 46 7 (CBO w base) v ps)(hn:ps.length≤1048576)
 (hp:∀p∈ps,p.1.phis.length≤1048576∧p.1.insts.length≤1048576):SBlks w w.heap.size v (ps.map Prod.fst):=by
 obtain⟨A,c,rfl,hl,hc,hr⟩:=h.done (D:=fun _=>True) hn (fun _ _ _=>trivial);refine⟨A,c,by rw[List.length_map],by rw[List.length_map];exact hl,by rw[List.length_map];exact hc,fun i x hx=>?_⟩;rw[List.getElem?_map]at hx;obtain⟨p,hx2,rfl⟩:=Option.map_eq_some_iff.1 hx;obtain⟨b,off,cs,ha,-,hb,-,hcells,rfl,hz,h1,h2⟩:=hr i p hx2;have hm:=hp p (List.mem_of_getElem? hx2);exact⟨b,off,ha,hb,hz,hcells 0 _ rfl,⟨_,hcells 1 _ rfl,phis_of h1 hm.1⟩,⟨_,hcells 2 _ rfl,insts_of h2 hm.2⟩,hcells 3 _ rfl,hcells 4 _ rfl,hcells 5 _ rfl,hcells 6 _ rfl⟩
theorem fn_of{w:World}{base:Nat}{vv vp vb:Value}{F:PFunc}{ps:List (PBlock×Value×Value)}(hV:RRow w base 70 2 CVar vv F.vars)(hP:w.ownsRow base 3 1 vp F.params.length (F.params.map (Value.int .i64)))
 (hR:RRow w base 46 7 (CBO w base) vb ps) (he:ps.map Prod.fst=F.blocks) (hB:Bnd F):FnV w w.heap.size (.agg #[vv,vp,vb]) F:=by
 refine⟨vv,vp,vb,rfl,DVars.rd (D:=fun _=>True) (hV.done (by have:=hB.vars;omega) (fun _ _ _=>trivial)) (fun _ h _=>h),DInts.rd (D:=fun _=>True) (DInts.of_own hP (by have:=hB.params;omega) (fun _ _ _=>trivial)) (fun _ h _=>h),?_⟩;rw[← he];refine blks_of hR (by have:=hB.blocks;rw[← he,List.length_map]at this;omega) fun p hp=>?_
 have hm:p.1∈F.blocks:=by rw[← he];exact List.mem_map_of_mem hp
 have:=hB.parts _ hm;exact⟨ZO,ZO⟩
theorem RRow.cells{α:Type}{w:World}{base sz:Nat}{e:TypeId}{C:List Value→α→Prop}{v:Value}{xs:List α}(h:RRow w base e sz C v xs){i:Nat}(hi:i<xs.length) :
 ∃g cap cs,v=.slice (some ⟨g,0,none⟩) xs.length cap∧xs.length≤cap∧base≤g∧g<w.heap.size∧w.frozen? ⟨g,0,none⟩=false∧cs.length=sz∧(∀j u,cs[j]?=some u→w.cell? ⟨g,i*sz+j,none⟩=some u)∧C cs xs[i]:=by
 obtain⟨ch,hl,hc,hr⟩:=h;have hcs:∀c∈ch,c.length=sz:=fun cs hm=>by
  obtain⟨i,hi,rfl⟩:=List.getElem_of_mem hm;exact(hc i _ (xs[i]'(ZO)) (by simp[hi]) ZS).1
 have hch:ch[i]?=some (ch[i]'(ZO)):=by simp[hl,hi]
 have hcx:=hc i _ xs[i] hch (by simp[hi]);rcases hr.2 with⟨hv,h0⟩|⟨g,cap,cur,rfl,hb,hh,hnc,hcm,hsz,ht⟩
 · exact ZO
 · refine⟨g,cap,_,rfl,hnc,hb,(Array.getElem?_eq_some_iff.1 hh).1,World.ownsRow.frozenAt (hr) 0,hcx.1,fun j u hu=>?_,hcx.2⟩
   have hj:j<sz:=by rw[← hcx.1];exact(List.getElem?_eq_some_iff.1 hu).1
   rw[cell_of_row w g _ cur e (0,0) hh];have hf:=flat_at hcs hch hj;rw[hu,← ht,List.getElem?_take]at hf;split at hf
   · simpa using hf
   · cases hf
theorem flat_set3{a b c:Value}:∀{ch:List (List Value)} {k:Nat},(∀c∈ch,c.length=3)→k<ch.length→(ch.set k [a,b,c]).flatten=((ch.flatten.set (k*3) a).set (k*3+1) b).set (k*3+2) c
 |[],k,_,hk=>by simp at hk
 |c0::ch,k,hs,hk=>by
  have h0:=hs c0 ZS;obtain⟨x,y,z,rfl⟩:∃x y z,c0=[x,y,z]:=by
   match c0,h0 with
   |[x,y,z],_=>exact⟨x,y,z,rfl⟩
  cases k with
  |zero=>simp
  |succ k=>
   have ih:=flat_set3 (a:=a) (b:=b) (c:=c) (ch:=ch) (k:=k) (fun c h=>hs c (by simp[h])) (by simpa using hk);rw[Lc,List.flatten_cons,ih,List.flatten_cons,show(k+1)*3=k*3+1+1+1 from ZO];simp only[List.cons_append,List.nil_append,Lc,show k*3+1+1+1+1=k*3+1+1+1+1 from rfl,show k*3+1+1+1+2=k*3+2+1+1+1 from rfl]
theorem RRow.put3{α:Type}{w:World}{base g n cap:Nat}{e:TypeId}{C C':List Value→α→Prop}{xs:List α}{a b c:Value}{k:Nat}{x':α}(h:RRow w base e 3 C (.slice (some ⟨g,0,none⟩) n cap) xs)(hk:k<xs.length)
 (hC:∀cs x,C cs x→C' cs x) (hx:C' [a,b,c] x') :
 RRow (((w.setCell ⟨g,k*3,none⟩ a).setCell ⟨g,k*3+1,none⟩ b).setCell ⟨g,k*3+2,none⟩ c) base e 3 C' (.slice (some ⟨g,0,none⟩) n cap) (xs.set k x'):=by
 obtain⟨A,c1,hv⟩:=h.form;simp only[Value.slice.injEq]at hv;obtain⟨-,rfl,-⟩:=hv;obtain⟨ch,hl,hc,hr⟩:=h;have hcs:∀c∈ch,c.length=3:=fun cs hm=>by
  obtain⟨i,hi,rfl⟩:=List.getElem_of_mem hm;exact(hc i _ (xs[i]'(ZO)) (by simp[hi]) ZS).1
 refine⟨ch.set k [a,b,c],by simp[hl],fun i cs x h1 h2=>?_,?_⟩
 · by_cases hi:k=i
   · subst hi
     simp[hl,hk]at h1 h2;subst h1 h2;exact⟨rfl,hx⟩
   · rw[List.getElem?_set_ne hi]at h1 h2
     exact⟨(hc i cs x h1 h2).1,hC _ _ (hc i cs x h1 h2).2⟩
 · rw[flat_set3 hcs ZO,List.length_set]
   exact(((hr.stored (k*3) a).1.stored (k*3+1) b).1.stored (k*3+2) c).1
def CBw(cs:List Value)(x:PBlock×Value×Value):Prop:=
 cs=[.string x.1.name,x.2.1,x.2.2,.int .i64 x.1.term.kind,.int .i64 x.1.term.var,.int .i64 x.1.term.t0,.int .i64 x.1.term.t1]∧x.1.name.size≤maxLen
section
variable {w w':World} {base g:Nat} {v:Value} {ts:List TypeId}
theorem own_ne_nt{e n sz:Nat}{xs:List Value}(ho:w.ownsRow base e sz v n xs)(he:e∉ts){b:Nat}(hb:NT ts w b):v.ownBlock≠some b:=by
 intro e2;obtain⟨cs',t',h1,h2⟩:=hb;rcases ho.2 with⟨rfl,-⟩|⟨g,cap,cur,rfl,-,hh,-⟩
 · cases e2
 · cases e2
   rw[hh]at h1;cases h1;exact he h2
theorem KT.of_kp{e n sz:Nat}{xs:List Value}(h:Kp (fun b=>v.ownBlock≠some b) w w')(ho:w.ownsRow base e sz v n xs)(he:e∉ts):KT ts w w':=
 ⟨h.size,fun b hb=>h.blk b (own_ne_nt ho he hb) hb.lt⟩
theorem CBO.kp{e n sz:Nat}{xs:List Value}{cs:List Value}{x:PBlock×Value×Value}(hx:CBO w base cs x)(h:Kp (fun b=>v.ownBlock≠some b) w w')(ho:w.ownsRow g e sz v n xs)(hi:e≠3)(hn:e≠49)(hd:∀k,x.2.1.ownBlock=some k→v.ownBlock≠some k):CBO w' base cs x:=by
 have hk:KT [3,49] w w':=KT.of_kp h ho (by simp[hi,hn]);exact⟨hx.1,hx.2.1,hx.2.2.1.turn (fun k e=>h.blk k (hd k e) (hx.2.2.1.lt e).2) (fun _ _ h=>h.kt hk ZS),hx.2.2.2.kt hk ZS (fun _ _ h=>h.kt hk ZS)⟩
end
structure PrI (F:PFunc) (wN wr:World) (g9:Nat) (v0 v1 vbs:Value) (ps:List (PBlock×Value×Value)) (L:List PBlock) (i:Nat) (vb:Value) (qs:List (PBlock×Value×Value)):Prop where
 map:qs.map Prod.fst=L
 far:∀q∈qs,∀j p,i≤j→ps[j]?=some p→Before q p
 box:BoxAt wr g9 #[v0,v1,vb] 26
 hV:RRow wr wN.heap.size 70 2 CVar v0 F.vars
 hI:wr.ownsRow wN.heap.size 3 1 v1 F.params.length (F.params.map (Value.int .i64))
 hq:RRow wr wN.heap.size 46 7 (CBO wr wN.heap.size) vb qs
 hp:RRow wr wN.heap.size 46 7 CBw vbs ps
 el:∀j p,i≤j→ps[j]?=some p→RRow wr wN.heap.size 81 3 (CPh wr) p.2.1 p.1.phis∧RRow wr wN.heap.size 49 4 (CIn wr) p.2.2 p.1.insts
 bel:Below wN.heap.size wN wr
section
variable {F:PFunc} {wN wr w':World} {g9 i gb:Nat} {v0 v1 vbs vb:Value} {ps qs:List (PBlock×Value×Value)} {L:List PBlock}
end
def trK(F:PFunc)(t:PTerm)(k:Nat):PTerm:={ t with t0:=if 0<k then(numP F (ith (endsOf t) 0).toNat:Int) else t.t0,t1:=if 1<k then(numP F (ith (endsOf t) 1).toNat:Int) else t.t1 }
def mixP(F:PFunc)(i k:Nat)(l:List PPhi):List PPhi:=(l.take k).map (prPhi F i)++l.drop k
section
variable {F:PFunc} {i k:Nat} {l:List PPhi}
theorem mixP_zero:mixP F i 0 l=l:=rfl
end
theorem setCells_three{w:World}{b o:Nat}{x y z:Value}:w.setCells b o [x,y,z]=((w.setCell ⟨b,o,none⟩ x).setCell ⟨b,o+1,none⟩ y).setCell ⟨b,o+2,none⟩ z:=rfl
def prCells(F:PFunc)(i:Nat)(vx vy:Value):List Value:=[.string (F.blk i).name,vx,vy,.int .i64 (F.blk i).term.kind,.int .i64 (F.blk i).term.var,.int .i64 (prTerm F (F.blk i).term).t0,.int .i64 (prTerm F (F.blk i).term).t1]
end Go.Proofs.YtkfobmdodegigaaGreatDoor
