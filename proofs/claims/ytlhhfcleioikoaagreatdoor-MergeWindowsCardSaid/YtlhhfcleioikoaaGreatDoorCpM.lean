/- A program that is built in new memory: its rows, and what leaves them as they are. No program's code in sight. -/
import Derived.Test.YtlhhfcleioikoaaGreatDoorCloneV
import Derived.Test.YtlhhfcleioikoaaGreatDoorJoinP
import Derived.Test.YtlhhfcleioikoaaGreatDoorSch
import Derived.Great.BuildSlice
import Derived.Deep.MidRow
import Derived.Deep.DeepCutAuto
import Derived.Deep.CutBlock
namespace Go.Proofs.YtlhhfcleioikoaaGreatDoor
open Go.RowKit
set_option maxRecDepth 100000
theorem Rd.moveV{W w:World}{A:Option Addr}{xs:List PVar}(h:Rd W.heap.size A xs 2 (VarC W))(hw:Below W.heap.size W w):Rd w.heap.size A xs 2 (VarC w):=by
 intro i x hx;obtain⟨b,off,ha,hb,hn,h0,h1⟩:=h i x hx;exact⟨b,off,ha,Nat.lt_of_lt_of_le hb hw.size,hn,(hw.cell (p:=⟨b,off+i*2,none⟩) hb).trans h0,(hw.cell (p:=⟨b,off+i*2+1,none⟩) hb).trans h1⟩
theorem Rd.moveB{W w:World}{A:Option Addr}{xs:List Int}(h:Rd W.heap.size A xs 1 (IntC W))(hw:Below W.heap.size W w):Rd W.heap.size A xs 1 (IntC w):=by
 intro i x hx;obtain⟨b,off,ha,hb,hr⟩:=h i x hx;refine⟨b,off,ha,hb,?_⟩;unfold IntC at *;rw[hw.cell (p:=⟨b,off+i*1,none⟩) hb];exact hr
def NT(ts:List TypeId)(w:World)(b:Nat):Prop:=∃cs t,w.heap[b]?=some (.cells cs t (0,0))∧t∈ts
theorem own_nt{w:World}{base e sz n:Nat}{v:Value}{xs:List Value}{ts:List TypeId}(h:w.ownsRow base e sz v n xs)(he:e∈ts):∀b,base≤b→v.ownBlock=some b→NT ts w b:=by
 intro b _ hb;rcases h.2 with⟨rfl,-⟩|⟨g,cap,cur,rfl,-,hh,-⟩
 · cases hb
 · cases hb
   exact⟨cur,e,hh,he⟩
structure KT (ts:List TypeId) (w w':World):Prop where
 size:w.heap.size≤w'.heap.size
 blk:∀b,NT ts w b→w'.heap[b]?=w.heap[b]?
section
variable {ts ts':List TypeId} {a w w':World}
theorem NT.lt{b:Nat}(h:NT ts w b):b<w.heap.size:=by
 obtain⟨cs,t,h,-⟩:=h;exact(Array.getElem?_eq_some_iff.1 h).1
theorem NT.mono{b:Nat}(h:NT ts w b)(hs:∀t∈ts,t∈ts'):NT ts' w b:=by
 obtain⟨cs,t,h,ht⟩:=h;exact⟨cs,t,h,hs t ht⟩
theorem NT.same{b:Nat}(h:NT ts w b)(hs:w'.heap[b]?=w.heap[b]?):NT ts w' b:=by
 obtain⟨cs,t,h,ht⟩:=h;exact⟨cs,t,hs.trans h,ht⟩
theorem KT.refl:KT ts w w:=⟨Nat.le_refl _,fun _ _=>rfl⟩
theorem KT.trans(h:KT ts a w)(h':KT ts w w'):KT ts a w':=⟨Nat.le_trans h.size h'.size,fun b hb=>(h'.blk b (hb.same (h.blk b hb))).trans (h.blk b hb)⟩
theorem KT.of_below(h:Below w.heap.size w w'):KT ts w w':=⟨h.size,fun b hb=>h.block b hb.lt⟩
theorem KT.alloc(h:KT ts a w)(o:Obj):KT ts a (w.alloc o):=h.trans (KT.of_below ((Below.refl _ _).alloc (Nat.le_refl _) _))
theorem KT.drew(h:KT ts a w):KT ts a w.drew:=⟨h.size,h.blk⟩
theorem KT.setCell(h:KT ts a w){g j:Nat}{cs:Array Value}{t:TypeId}(hg:BoxAt w g cs t)(ht:t∉ts)(v:Value):KT ts a (w.setCell ⟨g,j,none⟩ v):=
 h.trans ⟨ZS,fun b hb=>heap_set (by
  rintro rfl;obtain⟨cs',t',h1,h2⟩:=hb;unfold BoxAt at hg;rw[hg]at h1;cases h1
  exact ht h2)⟩
theorem KT.grown(h:KT ts a w){base e sz n:Nat}{v:Value}{xs:List Value}(ho:w.ownsRow base e sz v n xs)(he:e∉ts)(hg:w.grownBy w' v.ownBlock):KT ts a w':=
 h.trans ⟨hg.size,fun b hb=>hg.block b hb.lt (fun e2=>by
  obtain⟨cs',t',h1,h2⟩:=hb;rcases ho.2 with⟨rfl,-⟩|⟨g,cap,cur,rfl,-,hh,-⟩
  · cases e2
  · cases e2
    rw[hh]at h1;cases h1
    exact he h2)⟩
theorem KT.tr(h:KT ts w w')(hs:∀t∈ts',t∈ts):Tr (NT ts' w) (NT ts' w') w w':=⟨h.size,fun b hb _=>⟨h.blk b (hb.mono hs),hb.same (h.blk b (hb.mono hs))⟩⟩
theorem RRow.kt{α:Type}{base sz:Nat}{e:TypeId}{C C':List Value→α→Prop}{v:Value}{xs:List α}(h:RRow w base e sz C v xs)(hk:KT ts w w')(he:e∈ts)(hC:∀cs x,C cs x→C' cs x):RRow w' base e sz C' v xs:=by
 obtain⟨cells,ho⟩:=h.own;exact h.turn (fun k hv=>hk.blk k (own_nt ho he k (own_lt ho hv).1 hv)) hC
end
theorem own_kt{ts:List TypeId}{w w':World}{base e sz n:Nat}{v:Value}{xs:List Value}(h:w.ownsRow base e sz v n xs)(hk:KT ts w w')(he:e∈ts):w'.ownsRow base e sz v n xs:=
 own_turn h fun k hv=>hk.blk k (own_nt h he k (own_lt h hv).1 hv)
theorem take_phi{b:PBlock}{k:Nat}(h:k<b.phis.length):b.phis.take (k+1)=b.phis.take k++[b.phi k]:=by
 rw[List.take_add_one,PBlock.phi_get h];rfl
theorem take_inst{b:PBlock}{k:Nat}(h:k<b.insts.length):b.insts.take (k+1)=b.insts.take k++[b.inst k]:=by
 rw[List.take_add_one,PBlock.inst_get h];rfl
theorem Tryz.info66:(Tryz.prog.info? 66).map (fun i=>(i.zero,i.size,i.bytes))=some (some (.agg #[.int .i64 0,.slice none 0 0,.slice none 0 0]),3,56):=by kernel_rfl
theorem Tryz.info47:(Tryz.prog.info? 47).map (fun i=>(i.zero,i.size,i.bytes))=some (some (.agg #[.int .i64 0,.int .i64 0,.slice none 0 0,.int .i64 0]),4,48):=by kernel_rfl
theorem Tryz.info42:(Tryz.prog.info? 42).map (fun i=>(i.zero,i.size,i.bytes))=some (some (.agg #[.string ByteArray.empty,.slice none 0 0,.slice none 0 0,.int .i64 0,.int .i64 0,.int .i64 0,.int .i64 0]),7,96):=by kernel_rfl
def CPh(w:World):List Value→PPhi→Prop:=CPhi w (NT [3] w)
def CIn(w:World):List Value→PInst→Prop:=CInst w (NT [3] w)
def CBO(w:World)(base:Nat)(cs:List Value)(x:PBlock×Value×Value):Prop:=
 cs=[.string x.1.name,x.2.1,x.2.2,.int .i64 x.1.term.kind,.int .i64 x.1.term.var,.int .i64 x.1.term.t0,.int .i64 x.1.term.t1]∧x.1.name.size≤maxLen∧
  RRow w base 66 3 (CPh w) x.2.1 x.1.phis∧RRow w base 47 4 (CIn w) x.2.2 x.1.insts
theorem CPh.kt{ts:List TypeId}{w w':World}(hk:KT ts w w')(hi:3∈ts){cs:List Value}{x:PPhi}(h:CPh w cs x):CPh w' cs x:=CPhi.turn h (hk.tr (by simpa using hi))
theorem CIn.kt{ts:List TypeId}{w w':World}(hk:KT ts w w')(hi:3∈ts){cs:List Value}{x:PInst}(h:CIn w cs x):CIn w' cs x:=CInst.turn h (hk.tr (by simpa using hi))
theorem CBO.kt{ts:List TypeId}{w w':World}{base:Nat}(hk:KT ts w w')(hi:3∈ts)(hp:66∈ts)(hn:47∈ts){cs:List Value}{x:PBlock×Value×Value}(h:CBO w base cs x):CBO w' base cs x:=
 ⟨h.1,h.2.1,h.2.2.1.kt hk hp fun _ _ h=>h.kt hk hi,h.2.2.2.kt hk hn fun _ _ h=>h.kt hk hi⟩
theorem CBO.rebase{w:World}{B base:Nat}{cs:List Value}{x:PBlock×Value×Value}(h:CBO w base cs x)(hB:B≤base):CBO w B cs x:=⟨h.1,h.2.1,h.2.2.1.rebase hB,h.2.2.2.rebase hB⟩
def Before(x y:PBlock×Value×Value):Prop:=(∀k l,x.2.1.ownBlock=some k→y.2.1.ownBlock=some l→k<l)∧∀k l,x.2.2.ownBlock=some k→y.2.2.ownBlock=some l→k<l
def bcells(F:PFunc)(n:Nat)(A3:Option Addr)(c3:Nat)(A4:Option Addr)(c4:Nat):Array Value:=#[.string (F.blk n).name,.slice A3 (F.blk n).phis.length c3,.slice A4 (F.blk n).insts.length c4,.int .i64 (F.blk n).term.kind,.int .i64 (F.blk n).term.var,.int .i64 (F.blk n).term.t0,.int .i64 (F.blk n).term.t1]
theorem RRow.all_{α:Type}{w:World}{base sz:Nat}{e:TypeId}{C:List Value→α→Prop}{v:Value}{xs:List α}(h:RRow w base e sz C v xs):∀x∈xs,∃cs,C cs x:=by
 obtain⟨ch,hl,hc,-⟩:=h;intro x hx;obtain⟨i,hi,rfl⟩:=List.getElem_of_mem hx;exact⟨ch[i]'(ZO),(hc i _ _ (by simp[hl,hi]) (by simp[hi])).2⟩
def Apart(v v':Value):Prop:=∀k,v.ownBlock=some k→v'.ownBlock≠some k
theorem Apart.symm{v v':Value}(h:Apart v v'):Apart v' v:=fun k h1 h2=>h k h2 h1
def OwnI(w:World)(base:Nat)(v:Value)(xs:List Int):Prop:=w.ownsRow base 3 1 v xs.length (xs.map (Value.int .i64))∧xs.length≤1048576
def CPhS(w:World)(base:Nat)(cs:List Value)(x:PPhi×Value×Value):Prop:=cs=[.int .i64 x.1.dst,x.2.1,x.2.2]∧OwnI w base x.2.1 x.1.args∧OwnI w base x.2.2 x.1.froms
def CInS(w:World)(base:Nat)(cs:List Value)(x:PInst×Value):Prop:=cs=[.int .i64 x.1.op,.int .i64 x.1.dst,x.2,.int .i64 x.1.num]∧OwnI w base x.2 x.1.args
structure XBlk where
 b:PBlock
 vp:Value
 vi:Value
 es:List (PPhi×Value×Value)
 is:List (PInst×Value)
def rowsP(es:List (PPhi×Value×Value)):List Value:=es.flatMap fun e=>[e.2.1,e.2.2]
def rowsI(is:List (PInst×Value)):List Value:=is.map Prod.snd
def XBlk.rows(x:XBlk):List Value:=rowsP x.es++rowsI x.is
def XBlk.old(x:XBlk):PBlock×Value×Value:=(x.b,x.vp,x.vi)
structure CBS (w:World) (base:Nat) (cs:List Value) (x:XBlk):Prop where
 cs:cs=[.string x.b.name,x.vp,x.vi,.int .i64 x.b.term.kind,.int .i64 x.b.term.var,.int .i64 x.b.term.t0,.int .i64 x.b.term.t1]
 nm:x.b.name.size≤maxLen
 me:x.es.map Prod.fst=x.b.phis
 mi:x.is.map Prod.fst=x.b.insts
 hp:RRow w base 66 3 (CPhS w base) x.vp x.es
 hi:RRow w base 47 4 (CInS w base) x.vi x.is
 ap:x.rows.Pairwise Apart
structure BeforeX (x y:XBlk):Prop where
 vp:∀k l,x.vp.ownBlock=some k→y.vp.ownBlock=some l→k<l
 vi:∀k l,x.vi.ownBlock=some k→y.vi.ownBlock=some l→k<l
 rw:∀v∈x.rows,∀u∈y.rows,∀k l,v.ownBlock=some k→u.ownBlock=some l→k<l
section
variable {w w':World} {base B:Nat} {ts:List TypeId} {v:Value} {cs:List Value}
theorem OwnI.kt{xs:List Int}(h:OwnI w base v xs)(hk:KT ts w w')(hi:3∈ts):OwnI w' base v xs:=⟨own_kt h.1 hk hi,h.2⟩
theorem OwnI.rebase{xs:List Int}(h:OwnI w base v xs)(hB:B≤base):OwnI w B v xs:=⟨own_rebase h.1 hB,h.2⟩
theorem OwnI.dints{xs:List Int}(h:OwnI w base v xs):DInts w (NT [3] w) v xs:=DInts.of_own h.1 h.2 (own_nt h.1 ZS)
theorem CPhS.kt{x:PPhi×Value×Value}(h:CPhS w base cs x)(hk:KT ts w w')(hi:3∈ts):CPhS w' base cs x:=⟨h.1,h.2.1.kt hk hi,h.2.2.kt hk hi⟩
theorem CInS.kt{x:PInst×Value}(h:CInS w base cs x)(hk:KT ts w w')(hi:3∈ts):CInS w' base cs x:=⟨h.1,h.2.kt hk hi⟩
theorem CPhS.rebase{x:PPhi×Value×Value}(h:CPhS w base cs x)(hB:B≤base):CPhS w B cs x:=⟨h.1,h.2.1.rebase hB,h.2.2.rebase hB⟩
theorem CInS.rebase{x:PInst×Value}(h:CInS w base cs x)(hB:B≤base):CInS w B cs x:=⟨h.1,h.2.rebase hB⟩
theorem RRow.map{α β:Type}{e sz:Nat}{C:List Value→α→Prop}{C':List Value→β→Prop}{xs:List α}(f:α→β)(h:RRow w base e sz C v xs)(hC:∀cs x,C cs x→C' cs (f x)):RRow w base e sz C' v (xs.map f):=by
 obtain⟨ch,hl,hc,hr⟩:=h;refine⟨ch,by rw[List.length_map];exact hl,fun i cs x h1 h2=>?_,by rw[List.length_map];exact hr⟩;rw[List.getElem?_map]at h2;obtain⟨y,hy,rfl⟩:=Option.map_eq_some_iff.1 h2;exact⟨(hc i cs y h1 hy).1,hC _ _ (hc i cs y h1 hy).2⟩
theorem RRow.imp{α:Type}{e sz:Nat}{C C':List Value→α→Prop}{xs:List α}(h:RRow w base e sz C v xs)(hC:∀cs x,C cs x→C' cs x):RRow w base e sz C' v xs:=h.turn (fun _ _=>rfl) hC
theorem CBS.kt{x:XBlk}(h:CBS w base cs x)(hk:KT ts w w')(hi:3∈ts)(hp:66∈ts)(hn:47∈ts):CBS w' base cs x:=
 ⟨h.cs,h.nm,h.me,h.mi,h.hp.kt hk hp fun _ _ h=>h.kt hk hi,h.hi.kt hk hn fun _ _ h=>h.kt hk hi,h.ap⟩
theorem CBS.rebase{x:XBlk}(h:CBS w base cs x)(hB:B≤base):CBS w B cs x:=
 ⟨h.cs,h.nm,h.me,h.mi,(h.hp.rebase hB).imp fun _ _ h=>h.rebase hB,(h.hi.rebase hB).imp fun _ _ h=>h.rebase hB,h.ap⟩
theorem CBS.old{x:XBlk}(h:CBS w base cs x):CBO w base cs x.old:=by
 refine⟨h.cs,h.nm,?_,?_⟩
 · show RRow w base 66 3 (CPh w) x.vp x.b.phis
   rw[← h.me];exact h.hp.map _ fun cs e h=>⟨_,_,h.1,h.2.1.dints,h.2.2.dints⟩
 · show RRow w base 47 4 (CIn w) x.vi x.b.insts
   rw[← h.mi];exact h.hi.map _ fun cs e h=>⟨_,h.1,h.2.dints⟩
theorem BeforeX.old{x y:XBlk}(h:BeforeX x y):Before x.old y.old:=⟨h.vp,h.vi⟩
theorem rowsP_lt{es:List (PPhi×Value×Value)}(h:RRow w base 66 3 (CPhS w base) v es):∀u∈rowsP es,∀k,u.ownBlock=some k→base≤k∧k<w.heap.size:=fun u hu k hk=>by
 obtain⟨e,he,hu⟩:=List.mem_flatMap.1 hu;obtain⟨cs,-,h1,h2⟩:=h.all_ e he;simp only[List.mem_cons,List.not_mem_nil,or_false]at hu;rcases hu with rfl|rfl
 · exact own_lt h1.1 hk
 · exact own_lt h2.1 hk
theorem rowsI_lt{is:List (PInst×Value)}(h:RRow w base 47 4 (CInS w base) v is):∀u∈rowsI is,∀k,u.ownBlock=some k→base≤k∧k<w.heap.size:=fun u hu k hk=>by
 obtain⟨e,he,rfl⟩:=List.mem_map.1 hu;obtain⟨cs,-,h1⟩:=h.all_ e he;exact own_lt h1.1 hk
theorem rows_lt{x:XBlk}(h:CBS w base cs x):∀u∈x.rows,∀k,u.ownBlock=some k→base≤k∧k<w.heap.size:=fun u hu k hk=>by
 rcases List.mem_append.1 hu with hu|hu
 · exact rowsP_lt h.hp u hu k hk
 · exact rowsI_lt h.hi u hu k hk
theorem rowsP_snoc{es:List (PPhi×Value×Value)}{x:PPhi}{a f:Value}(h:(rowsP es).Pairwise Apart)(ha:∀u∈rowsP es,Apart u a)(hf:∀u∈rowsP es,Apart u f)(haf:Apart a f):(rowsP (es++[(x,a,f)])).Pairwise Apart:=by
 unfold rowsP at *;rw[List.flatMap_append];refine List.pairwise_append.2 ⟨h,by simpa using haf,fun u hu y hy=>?_⟩;simp at hy;rcases hy with rfl|rfl
 · exact ha u hu
 · exact hf u hu
theorem rowsX_snoc{es:List (PPhi×Value×Value)}{is:List (PInst×Value)}{x:PInst}{a:Value}(h:(rowsP es++rowsI is).Pairwise Apart)(ha:∀u∈rowsP es++rowsI is,Apart u a):(rowsP es++rowsI (is++[(x,a)])).Pairwise Apart:=by
 have e:rowsP es++rowsI (is++[(x,a)])=(rowsP es++rowsI is)++[a]:=by simp[rowsI]
 rw[e];exact List.pairwise_append.2 ⟨h,List.pairwise_singleton _ _,fun u hu y hy=>by rw[List.mem_singleton]at hy;subst hy;exact ha u hu⟩
end
theorem fill7(z0 z1 z2 z3 z4 z5 z6 a0 a1 a2 a3 a4 a5 a6:Value):Instr.fill (fun i=>some (i*7,7)) ((Array.range (1*7)).map ((Value.agg #[z0,z1,z2,z3,z4,z5,z6]).cells[·%(Value.agg #[z0,z1,z2,z3,z4,z5,z6]).cells.size]!)) [(0,.agg #[a0,a1,a2,a3,a4,a5,a6])]=some #[a0,a1,a2,a3,a4,a5,a6]:=by
 kernel_rfl
theorem wpList_one7{P:Program}{ops:Array Oper}{rest:List Oper}{o:Oper}{a:Act}{w:World}{Q:Exit→Act→World→Prop}(hg:o.guard=none)(t e:TypeId)(x:Operand)(ho:o.op=.buildSlice t 1 #[(0,x)]){by_:Nat}{z0 z1 z2 z3 z4 z5 z6 a0 a1 a2 a3 a4 a5 a6:Value}
 (hu:P.underlying t=some (.slice e)) (hinf:(P.info? e).map (fun i=>(i.zero,i.size,i.bytes))=some (some (.agg #[z0,z1,z2,z3,z4,z5,z6]),7,by_)) (hx:a.eval x=.agg #[a0,a1,a2,a3,a4,a5,a6])
 (h:wpList P ops Q rest (a.put o.dst (.slice (some ⟨w.heap.size,0,none⟩) 1 1)) (w.alloc (.cells #[a0,a1,a2,a3,a4,a5,a6] e))):wpList P ops Q (o::rest) a w:=by
 obtain⟨i,hi,hz,hsz,-⟩:=info_parts hinf;refine Go.wpList_buildSlice hg t e 1 #[(0,x)] ho #[a0,a1,a2,a3,a4,a5,a6] i _ hu hi hz (by rw[hsz];decide) (by rw[hsz];decide) ?_ h;rw[hsz];simp only[List.map_toArray,List.map_cons,List.map_nil,hx];exact fill7 z0 z1 z2 z3 z4 z5 z6 a0 a1 a2 a3 a4 a5 a6
end Go.Proofs.YtlhhfcleioikoaaGreatDoor
