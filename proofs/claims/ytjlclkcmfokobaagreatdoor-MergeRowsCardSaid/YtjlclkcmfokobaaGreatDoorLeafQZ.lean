/- The plain data of a program (api.Func) and what it means that memory holds one. -/
import Derived.Test.YtjlclkcmfokobaaGreatDoorRows
import Derived.Test.YtjlclkcmfokobaaGreatDoorZedZ
import Derived.WalkKit
import Derived.WalkSpells
import Derived.WalkLawsBesides
import Derived.Lib.Hide
import Derived.OwnWalk
namespace Go.Proofs.YtjlclkcmfokobaaGreatDoor
open Go.RowKit
structure YaE where
 name:ByteArray
 ty:Int
structure PPhi where
 dst:Int
 args:List Int
 froms:List Int
structure PInst where
 op:Int
 dst:Int
 args:List Int
 num:Int
structure PTerm where
 kind:Int
 var:Int
 t0:Int
 t1:Int
structure PBlock where
 name:ByteArray
 phis:List PPhi
 insts:List PInst
 term:PTerm
structure PFunc where
 vars:List YaE
 params:List Int
 blocks:List PBlock
instance:Inhabited YaE:=⟨⟨ByteArray.empty,0⟩⟩
instance:Inhabited PPhi:=⟨⟨0,[],[]⟩⟩
instance:Inhabited PInst:=⟨⟨0,0,[],0⟩⟩
instance:Inhabited PTerm:=⟨⟨0,0,0,0⟩⟩
instance:Inhabited PBlock:=⟨⟨ByteArray.empty,[],[],default⟩⟩
instance:Inhabited PFunc:=⟨⟨[],[],[]⟩⟩
def ith(xs:List Int)(i:Nat):Int:=xs.getD i 0
def PFunc.var(F:PFunc)(i:Nat):YaE:=F.vars.getD i default
def PFunc.blk(F:PFunc)(i:Nat):PBlock:=F.blocks.getD i default
def PBlock.phi(b:PBlock)(i:Nat):PPhi:=b.phis.getD i default
def PBlock.inst(b:PBlock)(i:Nat):PInst:=b.insts.getD i default
theorem Ybz{xs:List Int}{i:Nat}(h:i<xs.length):xs[i]?=some (ith xs i):=by simp[ith,h]
theorem PFunc.var_get{F:PFunc}{i:Nat}(h:i<F.vars.length):F.vars[i]?=some (F.var i):=by simp[PFunc.var,h]
theorem PFunc.blk_get{F:PFunc}{i:Nat}(h:i<F.blocks.length):F.blocks[i]?=some (F.blk i):=by simp[PFunc.blk,h]
theorem PBlock.phi_get{F:PBlock}{i:Nat}(h:i<F.phis.length):F.phis[i]?=some (F.phi i):=by simp[PBlock.phi,h]
theorem PBlock.inst_get{F:PBlock}{i:Nat}(h:i<F.insts.length):F.insts[i]?=some (F.inst i):=by simp[PBlock.inst,h]
def Len(n:Nat):Prop:=n≤281474976710656
def Rd{α:Type}(B:Nat)(A:Option Addr)(xs:List α)(sz:Nat)(R:Nat→Nat→α→Prop):Prop:=
 ∀i x,xs[i]?=some x→∃b off,A=some ⟨b,off,none⟩∧b<B∧R b (off+i*sz) x
def Sl{α:Type}(B:Nat)(v:Value)(xs:List α)(sz:Nat)(R:Nat→Nat→α→Prop):Prop:=
 ∃A c,v=.slice A xs.length c∧Len xs.length∧xs.length≤c∧Rd B A xs sz R
def Yk(w:World)(b o:Nat)(x:Int):Prop:=w.cell? ⟨b,o,none⟩=some (.int .i64 x)
def SInts(w:World)(B:Nat)(v:Value)(xs:List Int):Prop:=Sl B v xs 1 (Yk w)
def Ycd(w:World)(b o:Nat)(x:YaE):Prop:=x.name.size≤maxLen∧w.cell? ⟨b,o,none⟩=some (.string x.name)∧w.cell? ⟨b,o+1,none⟩=some (.int .i64 x.ty)
def SVars(w:World)(B:Nat)(v:Value)(xs:List YaE):Prop:=Sl B v xs 2 (Ycd w)
def PhiC(w:World)(B:Nat)(b o:Nat)(x:PPhi):Prop:=w.cell? ⟨b,o,none⟩=some (.int .i64 x.dst)∧
 (∃v,w.cell? ⟨b,o+1,none⟩=some v∧SInts w B v x.args)∧∃v,w.cell? ⟨b,o+2,none⟩=some v∧SInts w B v x.froms
def SPhis(w:World)(B:Nat)(v:Value)(xs:List PPhi):Prop:=Sl B v xs 3 (PhiC w B)
def InstC(w:World)(B:Nat)(b o:Nat)(x:PInst):Prop:=w.cell? ⟨b,o,none⟩=some (.int .i64 x.op)∧w.cell? ⟨b,o+1,none⟩=some (.int .i64 x.dst)∧
 (∃v,w.cell? ⟨b,o+2,none⟩=some v∧SInts w B v x.args)∧w.cell? ⟨b,o+3,none⟩=some (.int .i64 x.num)
def SInsts(w:World)(B:Nat)(v:Value)(xs:List PInst):Prop:=Sl B v xs 4 (InstC w B)
def BlkC(w:World)(B:Nat)(b o:Nat)(x:PBlock):Prop:=x.name.size≤maxLen∧w.cell? ⟨b,o,none⟩=some (.string x.name)∧
 (∃v,w.cell? ⟨b,o+1,none⟩=some v∧SPhis w B v x.phis)∧(∃v,w.cell? ⟨b,o+2,none⟩=some v∧SInsts w B v x.insts)∧
 w.cell? ⟨b,o+3,none⟩=some (.int .i64 x.term.kind)∧w.cell? ⟨b,o+4,none⟩=some (.int .i64 x.term.var)∧w.cell? ⟨b,o+5,none⟩=some (.int .i64 x.term.t0)∧w.cell? ⟨b,o+6,none⟩=some (.int .i64 x.term.t1)
def SBlks(w:World)(B:Nat)(v:Value)(xs:List PBlock):Prop:=Sl B v xs 7 (BlkC w B)
def FnV(w:World)(B:Nat)(v:Value)(F:PFunc):Prop:=
 ∃v0 v1 v2,v=.agg #[v0,v1,v2]∧SVars w B v0 F.vars∧SInts w B v1 F.params∧SBlks w B v2 F.blocks
def PhiV(w:World)(B:Nat)(v:Value)(p:PPhi):Prop:=∃v1 v2,v=.agg #[.int .i64 p.dst,v1,v2]∧SInts w B v1 p.args∧SInts w B v2 p.froms
def InstV(w:World)(B:Nat)(v:Value)(p:PInst):Prop:=∃v1,v=.agg #[.int .i64 p.op,.int .i64 p.dst,v1,.int .i64 p.num]∧SInts w B v1 p.args
def YpU(v:Value)(t:PTerm):Prop:=v=.agg #[.int .i64 t.kind,.int .i64 t.var,.int .i64 t.t0,.int .i64 t.t1]
section
variable {α:Type} {B B':Nat} {w w':World} {v:Value} {A:Option Addr} {sz:Nat}
theorem Rd.keep{xs:List α}{R R':Nat→Nat→α→Prop}(h:Rd B A xs sz R)(hB:B≤B')(hR:∀b o x,b<B→R b o x→R' b o x):Rd B' A xs sz R':=
 fun i x hx=>by
  obtain⟨b,off,ha,hb,hr⟩:=h i x hx;exact⟨b,off,ha,ZO,hR _ _ _ hb hr⟩
theorem Sl.keep{xs:List α}{R R':Nat→Nat→α→Prop}(h:Sl B v xs sz R)(hB:B≤B')(hR:∀b o x,b<B→R b o x→R' b o x):Sl B' v xs sz R':=by
 obtain⟨A,c,hv,hl,hc,hr⟩:=h;exact⟨A,c,hv,hl,hc,hr.keep hB hR⟩
def Kept(B:Nat)(w w':World):Prop:=∀b o,b<B→w'.cell? ⟨b,o,none⟩=w.cell? ⟨b,o,none⟩
theorem Kept.of_below(h:Below B w w'):Kept B w w':=fun b o hb=>h.cell (p:=⟨b,o,none⟩) hb
theorem SInts.keep{xs:List Int}(h:SInts w B v xs)(hk:Kept B w w')(hB:B≤B'):SInts w' B' v xs:=
 Sl.keep h hB fun b o x hb hx=>by unfold Yk at *;rw[hk b o hb];exact hx
theorem SVars.keep{xs:List YaE}(h:SVars w B v xs)(hk:Kept B w w')(hB:B≤B'):SVars w' B' v xs:=
 Sl.keep h hB fun b o x hb hx=>by unfold Ycd at *;rw[hk _ _ hb,hk _ _ hb];exact hx
theorem PhiC.keep{b o:Nat}{x:PPhi}(h:PhiC w B b o x)(hb:b<B)(hk:Kept B w w')(hB:B≤B'):PhiC w' B' b o x:=by
 obtain⟨h0,⟨v1,h1,s1⟩,v2,h2,s2⟩:=h;exact⟨by rw[hk _ _ hb];exact h0,⟨v1,by rw[hk _ _ hb];exact h1,s1.keep hk hB⟩,v2,by rw[hk _ _ hb];exact h2,s2.keep hk hB⟩
theorem InstC.keep{b o:Nat}{x:PInst}(h:InstC w B b o x)(hb:b<B)(hk:Kept B w w')(hB:B≤B'):InstC w' B' b o x:=by
 obtain⟨h0,h1,⟨v1,h2,s1⟩,h3⟩:=h;exact⟨by rw[hk _ _ hb];exact h0,by rw[hk _ _ hb];exact h1,⟨v1,by rw[hk _ _ hb];exact h2,s1.keep hk hB⟩,by rw[hk _ _ hb];exact h3⟩
theorem SPhis.keep{xs:List PPhi}(h:SPhis w B v xs)(hk:Kept B w w')(hB:B≤B'):SPhis w' B' v xs:=Sl.keep h hB fun _ _ _ hb hx=>PhiC.keep hx hb hk hB
theorem SInsts.keep{xs:List PInst}(h:SInsts w B v xs)(hk:Kept B w w')(hB:B≤B'):SInsts w' B' v xs:=Sl.keep h hB fun _ _ _ hb hx=>InstC.keep hx hb hk hB
theorem BlkC.keep{b o:Nat}{x:PBlock}(h:BlkC w B b o x)(hb:b<B)(hk:Kept B w w')(hB:B≤B'):BlkC w' B' b o x:=by
 obtain⟨hn,h0,⟨v1,h1,s1⟩,⟨v2,h2,s2⟩,h3,h4,h5,h6⟩:=h;exact⟨hn,by rw[hk _ _ hb];exact h0,⟨v1,by rw[hk _ _ hb];exact h1,s1.keep hk hB⟩,⟨v2,by rw[hk _ _ hb];exact h2,s2.keep hk hB⟩,by rw[hk _ _ hb];exact h3,by rw[hk _ _ hb];exact h4,by rw[hk _ _ hb];exact h5,by rw[hk _ _ hb];exact h6⟩
theorem SBlks.keep{xs:List PBlock}(h:SBlks w B v xs)(hk:Kept B w w')(hB:B≤B'):SBlks w' B' v xs:=Sl.keep h hB fun _ _ _ hb hx=>BlkC.keep hx hb hk hB
theorem FnV.keep{F:PFunc}(h:FnV w B v F)(hk:Kept B w w')(hB:B≤B'):FnV w' B' v F:=by
 obtain⟨v0,v1,v2,hv,s0,s1,s2⟩:=h;exact⟨v0,v1,v2,hv,s0.keep hk hB,s1.keep hk hB,s2.keep hk hB⟩
theorem PhiV.keep{F:PPhi}(h:PhiV w B v F)(hk:Kept B w w')(hB:B≤B'):PhiV w' B' v F:=by
 obtain⟨v1,v2,hv,s1,s2⟩:=h;exact⟨v1,v2,hv,s1.keep hk hB,s2.keep hk hB⟩
theorem InstV.keep{F:PInst}(h:InstV w B v F)(hk:Kept B w w')(hB:B≤B'):InstV w' B' v F:=by
 obtain⟨v1,hv,s1⟩:=h;exact⟨v1,hv,s1.keep hk hB⟩
end
theorem Ya{W w1:World}(hb:Below W.heap.size W w1):(∀b o,b<W.heap.size→w1.cell? ⟨b,o,none⟩=W.cell? ⟨b,o,none⟩)∧(∀b o,b<W.heap.size→w1.frozen? ⟨b,o,none⟩=W.frozen? ⟨b,o,none⟩):=
 ⟨fun b o h=>hb.cell (p:=⟨b,o,none⟩) h,fun b o h=>hb.frozen (p:=⟨b,o,none⟩) h⟩
theorem Rd.int{W w:World}{A:Option Addr}{xs:List Int}(h:Rd W.heap.size A xs 1 (Yk W))(hw:Below W.heap.size W w){i:Nat}(hi:i<xs.length) :
 ∃b off,A=some ⟨b,off,none⟩∧b<w.heap.size∧w.cell? ⟨b,off+i,none⟩=some (.int .i64 (ith xs i)):=by
 obtain⟨b,off,ha,hb,hr⟩:=h i _ (Ybz hi);refine⟨b,off,ha,by have:=hw.size;omega,?_⟩;rw[hw.cell (p:=⟨b,off+i,none⟩) hb];simpa[Yk]using hr
theorem Rd.var{W w:World}{A:Option Addr}{F:PFunc}(h:Rd W.heap.size A F.vars 2 (Ycd W))(hw:Below W.heap.size W w){i:Nat}(hi:i<F.vars.length) :
 ∃b off,A=some ⟨b,off,none⟩∧b<w.heap.size∧(F.var i).name.size≤maxLen∧w.cell? ⟨b,off+i*2,none⟩=some (.string (F.var i).name)∧w.cell? ⟨b,off+i*2+1,none⟩=some (.int .i64 (F.var i).ty):=by
 obtain⟨b,off,ha,hb,hr⟩:=h i _ (PFunc.var_get hi);exact⟨b,off,ha,by have:=hw.size;omega,hr.1,(hw.cell (p:=⟨b,off+i*2,none⟩) hb).trans hr.2.1,(hw.cell (p:=⟨b,off+i*2+1,none⟩) hb).trans hr.2.2⟩
theorem Rd.phi{W w:World}{A:Option Addr}{b:PBlock}(h:Rd W.heap.size A b.phis 3 (PhiC W W.heap.size))(hw:Below W.heap.size W w){i:Nat}(hi:i<b.phis.length) :
 ∃bb off A1 c1 A2 c2,A=some ⟨bb,off,none⟩∧bb<w.heap.size∧w.cell? ⟨bb,off+i*3,none⟩=some (.int .i64 (b.phi i).dst)∧
  w.cell? ⟨bb,off+i*3+1,none⟩=some (.slice A1 (b.phi i).args.length c1)∧w.cell? ⟨bb,off+i*3+2,none⟩=some (.slice A2 (b.phi i).froms.length c2)∧
  Len (b.phi i).args.length∧Len (b.phi i).froms.length∧(b.phi i).args.length≤c1∧(b.phi i).froms.length≤c2∧Rd W.heap.size A1 (b.phi i).args 1 (Yk W)∧Rd W.heap.size A2 (b.phi i).froms 1 (Yk W):=by
 obtain⟨bb,off,ha,hb,h0,⟨v1,h1,A1,c1,rfl,l1,k1,r1⟩,v2,h2,A2,c2,rfl,l2,k2,r2⟩:=h i _ (PBlock.phi_get hi);exact⟨bb,off,A1,c1,A2,c2,ha,by have:=hw.size;omega,(hw.cell (p:=⟨bb,off+i*3,none⟩) hb).trans h0,(hw.cell (p:=⟨bb,off+i*3+1,none⟩) hb).trans h1,(hw.cell (p:=⟨bb,off+i*3+2,none⟩) hb).trans h2,l1,l2,k1,k2,r1,r2⟩
theorem Rd.inst{W w:World}{A:Option Addr}{b:PBlock}(h:Rd W.heap.size A b.insts 4 (InstC W W.heap.size))(hw:Below W.heap.size W w){i:Nat}(hi:i<b.insts.length) :
 ∃bb off A1 c1,A=some ⟨bb,off,none⟩∧bb<w.heap.size∧w.cell? ⟨bb,off+i*4,none⟩=some (.int .i64 (b.inst i).op)∧w.cell? ⟨bb,off+i*4+1,none⟩=some (.int .i64 (b.inst i).dst)∧
  w.cell? ⟨bb,off+i*4+2,none⟩=some (.slice A1 (b.inst i).args.length c1)∧w.cell? ⟨bb,off+i*4+3,none⟩=some (.int .i64 (b.inst i).num)∧
  Len (b.inst i).args.length∧(b.inst i).args.length≤c1∧Rd W.heap.size A1 (b.inst i).args 1 (Yk W):=by
 obtain⟨bb,off,ha,hb,h0,h1,⟨v1,h2,A1,c1,rfl,l1,k1,r1⟩,h3⟩:=h i _ (PBlock.inst_get hi);exact⟨bb,off,A1,c1,ha,by have:=hw.size;omega,(hw.cell (p:=⟨bb,off+i*4,none⟩) hb).trans h0,(hw.cell (p:=⟨bb,off+i*4+1,none⟩) hb).trans h1,(hw.cell (p:=⟨bb,off+i*4+2,none⟩) hb).trans h2,(hw.cell (p:=⟨bb,off+i*4+3,none⟩) hb).trans h3,l1,k1,r1⟩
theorem Rd.blk{W w:World}{A:Option Addr}{F:PFunc}(h:Rd W.heap.size A F.blocks 7 (BlkC W W.heap.size))(hw:Below W.heap.size W w){i:Nat}(hi:i<F.blocks.length) :
 ∃bb off A1 c1 A2 c2,A=some ⟨bb,off,none⟩∧bb<w.heap.size∧(F.blk i).name.size≤maxLen∧w.cell? ⟨bb,off+i*7,none⟩=some (.string (F.blk i).name)∧
  w.cell? ⟨bb,off+i*7+1,none⟩=some (.slice A1 (F.blk i).phis.length c1)∧w.cell? ⟨bb,off+i*7+2,none⟩=some (.slice A2 (F.blk i).insts.length c2)∧
  w.cell? ⟨bb,off+i*7+3,none⟩=some (.int .i64 (F.blk i).term.kind)∧w.cell? ⟨bb,off+i*7+4,none⟩=some (.int .i64 (F.blk i).term.var)∧
  w.cell? ⟨bb,off+i*7+5,none⟩=some (.int .i64 (F.blk i).term.t0)∧w.cell? ⟨bb,off+i*7+6,none⟩=some (.int .i64 (F.blk i).term.t1)∧
  Len (F.blk i).phis.length∧Len (F.blk i).insts.length∧(F.blk i).phis.length≤c1∧(F.blk i).insts.length≤c2∧Rd W.heap.size A1 (F.blk i).phis 3 (PhiC W W.heap.size)∧Rd W.heap.size A2 (F.blk i).insts 4 (InstC W W.heap.size):=by
 obtain⟨bb,off,ha,hb,hn,h0,⟨v1,h1,A1,c1,rfl,l1,k1,r1⟩,⟨v2,h2,A2,c2,rfl,l2,k2,r2⟩,h3,h4,h5,h6⟩:=h i _ (PFunc.blk_get hi);exact⟨bb,off,A1,c1,A2,c2,ha,by have:=hw.size;omega,hn,(hw.cell (p:=⟨bb,off+i*7,none⟩) hb).trans h0,(hw.cell (p:=⟨bb,off+i*7+1,none⟩) hb).trans h1,(hw.cell (p:=⟨bb,off+i*7+2,none⟩) hb).trans h2,(hw.cell (p:=⟨bb,off+i*7+3,none⟩) hb).trans h3,(hw.cell (p:=⟨bb,off+i*7+4,none⟩) hb).trans h4,(hw.cell (p:=⟨bb,off+i*7+5,none⟩) hb).trans h5,(hw.cell (p:=⟨bb,off+i*7+6,none⟩) hb).trans h6,l1,l2,k1,k2,r1,r2⟩
theorem Yb{a b:Bool}(h:a=b):Ending.returned (.bool a)=.returned (.bool b):=by rw[h]
theorem Yam{a b:Bool}(h:a=true↔b=true):Ending.returned (.bool a)=.returned (.bool b):=by rw[Bool.eq_iff_iff.2 h]
theorem Yt{k:IntKind}{a b:Int}(h:a=b):Ending.returned (.int k a)=.returned (.int k b):=by rw[h]
theorem FnV.open_{W:World}{v:Value}{F:PFunc}(h:FnV W W.heap.size v F):∃A0 c0 A1 c1 A2 c2,v=.agg #[.slice A0 F.vars.length c0,.slice A1 F.params.length c1,.slice A2 F.blocks.length c2]∧
 Len F.vars.length∧Len F.params.length∧Len F.blocks.length∧F.vars.length≤c0∧F.params.length≤c1∧F.blocks.length≤c2∧Rd W.heap.size A0 F.vars 2 (Ycd W)∧Rd W.heap.size A1 F.params 1 (Yk W)∧Rd W.heap.size A2 F.blocks 7 (BlkC W W.heap.size):=by
 obtain⟨v0,v1,v2,rfl,⟨A0,c0,rfl,l0,k0,r0⟩,⟨A1,c1,rfl,l1,k1,r1⟩,A2,c2,rfl,l2,k2,r2⟩:=h;exact⟨A0,c0,A1,c1,A2,c2,rfl,l0,l1,l2,k0,k1,k2,r0,r1,r2⟩
theorem BL{B:Nat}{a w:World}(h:Below B a w:=by(focus repeat(first|assumption|exact Br _ _|refine Below.drew ?_|refine Below.alloc ?_ (by first|omega|exact Below.size ZA|(simp;done)|(simp;omega)) _|refine Below.setCell ?_ (by first|omega|exact Below.size ZA|(simp;done)|(simp;omega)) _|refine below_setRow ?_ (by first|omega|exact Below.size ZA|(simp;done)|(simp;omega)) _|(refine Below.trans ?_ (Below.mono ZA ?_);rotate_left;exact(by first|omega|exact Below.size ZA|(simp;done)|(simp;omega)))))):Below B a w:=h
theorem BLN{B:Nat}{a w:World}(h:Below B a w:=by(focus repeat(first|assumption|exact Br _ _|refine bdrewN ?_ _|refine Below.drew ?_|refine Below.alloc ?_ (by first|omega|exact Below.size ZA|(simp;done)|(simp;omega)) _))):Below B a w:=h
end Go.Proofs.YtjlclkcmfokobaaGreatDoor
namespace Go.Proofs.YtjlclkcmfokobaaGreatDoor
open Go.RowKit
def inB(k:Int)(n:Nat):Bool:=decide (0≤k)&&decide (k<n)
theorem YQ{k:Int}{n:Nat}(h:inB k n=true):0≤k∧k<n:=by simpa[inB]using h
theorem YgJ{k:Int}{n:Nat}(h:0≤k∧k<n):inB k n=true:=by simpa[inB]using h
theorem YpV{k:Int}{n:Nat}(h:inB k n=false):¬(0≤k∧k<n):=fun h'=>by rw[YgJ h']at h;cases h
theorem Yd6{W w:World}{fv:Value}{F:PFunc}(hF:FnV W W.heap.size fv F)(v:Int) :
 Calls Tryz.prog 190 #[fv,.int .i64 v] w fun e w'=>e=.returned (.bool (inB v F.vars.length))∧Below w.heap.size w w':=by
 obtain⟨A0,c0,A1,c1,A2,c2,rfl,l0,l1,l2,-,-,-,-,-,-⟩:=hF.open_;unfold Len at *
 by_cases h0:0≤v
 all_goals
  go_enter Tryz.func190,Tryz.ntmps190;go_wp2;go_ret;exact⟨by simp[inB]<;>omega,BL⟩
theorem Ye1{W w:World}{fv:Value}{F:PFunc}(hF:FnV W W.heap.size fv F)(v:Int) :
 Calls Tryz.prog 193 #[fv,.int .i64 v] w fun e w'=>e=.returned (.bool (inB v F.blocks.length))∧Below w.heap.size w w':=by
 obtain⟨A0,c0,A1,c1,A2,c2,rfl,l0,l1,l2,-,-,-,-,-,-⟩:=hF.open_;unfold Len at *
 by_cases h0:0≤v
 all_goals
  go_enter Tryz.func193,Tryz.ntmps193;go_wp2;go_ret;exact⟨by simp[inB]<;>omega,BL⟩
theorem Ybb{w:World}(v:Int)(n:Nat) :
 Calls Tryz.prog 122 #[.int .i64 v,.int .i64 n] w fun e w'=>e=.returned (.bool (inB v n))∧w=w':=by
 by_cases h0:0≤v
 all_goals
  go_enter Tryz.func122,Tryz.ntmps122;go_wp2;go_ret;exact⟨by simp[inB]<;>omega,rfl⟩
theorem Yj2{W w:World}{fv:Value}{F:PFunc}(hF:FnV W W.heap.size fv F)(hW:Below W.heap.size W w)(v:Int)(h0:0≤v)(h1:v<F.vars.length) :
 Calls Tryz.prog 167 #[fv,.int .i64 v] w fun e w'=>e=.returned (.int .i64 (F.var v.toNat).ty)∧Below w.heap.size w w':=by
 obtain⟨n,rfl⟩:=Int.eq_ofNat_of_zero_le h0;rw[Int.toNat_natCast];obtain⟨A0,c0,A1,c1,A2,c2,rfl,l0,l1,l2,-,-,-,r0,-,-⟩:=hF.open_;unfold Len at *;obtain⟨b,off,rfl,hb,-,-,hc⟩:=r0.var hW (i:=n) ZO;go_enter Tryz.func167,Tryz.ntmps167;go_wp2;go_ret;exact⟨rfl,BL⟩
theorem Yj3{W w:World}{fv:Value}{F:PFunc}(hF:FnV W W.heap.size fv F)(hW:Below W.heap.size W w)(v:Int)(h0:0≤v)(h1:v<F.vars.length) :
 Calls Tryz.prog 86 #[fv,.int .i64 v] w fun e w'=>e=.returned (.int .i64 (F.var v.toNat).ty)∧Below w.heap.size w w':=by
 obtain⟨n,rfl⟩:=Int.eq_ofNat_of_zero_le h0;rw[Int.toNat_natCast];obtain⟨A0,c0,A1,c1,A2,c2,rfl,l0,l1,l2,-,-,-,r0,-,-⟩:=hF.open_;unfold Len at *;obtain⟨b,off,rfl,hb,-,-,hc⟩:=r0.var hW (i:=n) ZO;go_enter Tryz.func86,Tryz.ntmps86;go_wp2;go_ret;exact⟨rfl,BL⟩
def leads(t:PTerm)(b:Int):Bool:=decide (t.kind=0∧t.t0=b∨t.kind=1∧(t.t0=b∨t.t1=b))
theorem Ye2{W w:World}{fv:Value}{F:PFunc}(hF:FnV W W.heap.size fv F)(hW:Below W.heap.size W w)(a b:Int)(h0:0≤a)(h1:a<F.blocks.length) :
 Calls Tryz.prog 50 #[fv,.int .i64 a,.int .i64 b] w fun e w'=>e=.returned (.bool (leads (F.blk a.toNat).term b))∧Below w.heap.size w w':=by
 obtain⟨n,rfl⟩:=Int.eq_ofNat_of_zero_le h0;rw[Int.toNat_natCast];obtain⟨A0,c0,A1,c1,A2,c2,rfl,l0,l1,l2,-,-,-,-,-,r2⟩:=hF.open_;unfold Len at *;obtain⟨bb,off,A3,c3,A4,c4,rfl,hb,-,-,-,-,x3,x4,x5,x6,-,-,-,-,-,-⟩:=r2.blk hW (i:=n) ZO;unfold leads;generalize (F.blk n).term=t at *
 by_cases k0:t.kind=0
 · by_cases k1:t.t0=b
   all_goals
    go_enter Tryz.func50,Tryz.ntmps50;go_wp2;go_ret;exact⟨by simp[k0,k1],BL⟩
 · by_cases k1:t.kind=1
   · by_cases k2:t.t0=b
     all_goals
      go_enter Tryz.func50,Tryz.ntmps50;go_wp2;go_ret;exact⟨Yam (by simp[k1,k2]),BL⟩
   · go_enter Tryz.func50,Tryz.ntmps50
     go_wp2;go_ret;exact⟨by simp[k0,k1],BL⟩
end Go.Proofs.YtjlclkcmfokobaaGreatDoor
namespace Go.Proofs.YtjlclkcmfokobaaGreatDoor
open Go.RowKit
theorem Ye3(w:World)(u:Value)(t:TypeId):∀j x,[u][j]?=some x→(w.alloc (.cells #[u] t)).cell? ((⟨w.heap.size,0,none⟩:Addr).add j)=some x:=cell_one_new _ _ _
section
variable {P:Program}
theorem Ydp(w:World){ops:Array Oper}{rest:List Oper}{o:Oper}{a:Act}{Q:Exit→Act→World→Prop}(hgd:o.guard=none)(s x:Operand)(t:TypeId)
 (ho:o.op=.call { callee:=.builtin .append,args:=#[s,x],argTypes:=#[t,t] })
 (base:Nat) (e:TypeId) (bytes:Nat) (ht:P.underlying t=some (.slice e)) {z:Value} (hinf:(P.info? e).map (fun i=>(i.zero,i.size,i.bytes))=some (some z,1,bytes)) (hz1:z.cells.size=1)
 (v:Value) (n:Nat) (xs:List Value) (hs:a.eval s=v) (hown:w.ownsRow base e 1 v n xs)
 (N:Nat) (hN:w.heap.size=N) (u:Value) (hx:a.eval x=.slice (some ⟨N,0,none⟩) 1 1) (h1:u.oneCell'=true)
 (h63:n<1048576) (hby:bytes≤64) (hbase:base≤w.heap.size)
 (h:∀v' w',w'.ownsRow base e 1 v' (n+1) (xs++[u])→(w.alloc (.cells #[u] e)).grownBy w' v.ownBlock→wpList P ops Q rest (a.put o.dst v') w') :
 wpList P ops Q (o::rest) a (w.alloc (.cells #[u] e)):=by
 subst hN;obtain⟨i,hi,hz,hsz,hb⟩:=info_parts hinf;refine wpList_append_own _ hgd s x t ho base e i z 1 bytes ht hi hz hsz hb hz1 ZD v n xs hs (hown.alloc _) ⟨w.heap.size,0,none⟩ 1 1 [u] hx rfl (Ye3 w u e) (by simpa using h1) (by unfold maxLen;omega) ?_ ZX (fun v' w' a b _=>h v' w' a b)
 calc(n+1)*bytes≤1048576*64:=Nat.mul_le_mul ZO hby
  _≤140737488355328:=by decide
end
theorem Rd.of_own{w:World}{base:Nat}{e:TypeId}{c n:Nat}{A:Option Addr}{xs:List Int}(h:w.ownsRow base e 1 (.slice A n c) n (xs.map (Value.int .i64))):n=xs.length∧n≤c∧Rd w.heap.size A xs 1 (Yk w):=by
 obtain⟨hl,h⟩:=h;have hn:n=xs.length:=by simpa using hl.symm
 rcases h with⟨hv,hn0⟩|⟨g,cap,cur,hv,hb,hg,hnc,hcm,hsz,hcur⟩
 · injection hv with h1 h2 h3
   subst h1 h2 h3;refine⟨hn,Nr _,fun i x hx=>?_⟩;have:xs=[]:=List.eq_nil_of_length_eq_zero hn.symm;subst this;simp at hx
 · injection hv with h1 h2 h3
   subst h1 h3;refine⟨hn,hnc,fun i x hx=>⟨g,0,rfl,(Array.getElem?_eq_some_iff.1 hg).1,?_⟩⟩;unfold Yk;rw[cell_of_row w g _ cur e (0,0) hg];have hi:i<xs.length:=(List.getElem?_eq_some_iff.1 hx).1;have:(cur.toList.take (n*1))[i]?=some (.int .i64 x):=by rw[hcur];simp[hx]
   rw[List.getElem?_take]at this;split at this
   · simpa using this
   · cases this
theorem Yp{w:World}{base:Nat}{e:TypeId}{sz n:Nat}{v:Value}{xs:List Value}(h:w.ownsRow base e sz v n xs):∃A c,v=.slice A n c:=by
 rcases h.2 with⟨rfl,rfl⟩|⟨g,cap,cur,rfl,_⟩
 · exact⟨none,0,rfl⟩
 · exact⟨_,_,rfl⟩
def RetInts(w:World)(xs:List Int)(e:Ending)(w':World):Prop:=
 ∃A c,e=.returned (.slice A xs.length c)∧Len xs.length∧xs.length≤c∧Rd w'.heap.size A xs 1 (Yk w')∧Below w.heap.size w w'
theorem RetInts.of_own{w w':World}{xs:List Int}{base:Nat}{e:TypeId}{v:Value}{n:Nat}(h:w'.ownsRow base e 1 v n (xs.map (Value.int .i64)))(hn:n≤1048576)(hb:Below w.heap.size w w'):RetInts w xs (.returned v) w':=by
 obtain⟨A,c,rfl⟩:=Yp h;obtain⟨rfl,hc,hr⟩:=Rd.of_own h;exact⟨A,c,rfl,by unfold Len;omega,hc,hr,hb⟩
theorem Rd.sints{w:World}{B:Nat}{A:Option Addr}{c:Nat}{xs:List Int}(h:Rd B A xs 1 (Yk w))(hl:Len xs.length)(hc:xs.length≤c):SInts w B (.slice A xs.length c) xs:=⟨A,c,rfl,hl,hc,h⟩
theorem Yu{w w':World}{base:Nat}{e:TypeId}{sz n:Nat}{v:Value}{xs:List Value}(h:w.ownsRow base e sz v n xs)(hb:Below w.heap.size w w'):w'.ownsRow base e sz v n xs:=by
 obtain⟨hl,h⟩:=h;refine⟨hl,?_⟩;rcases h with h|⟨g,cap,cur,hv,hg,hh,r⟩
 · exact .inl h
 · exact .inr ⟨g,cap,cur,hv,hg,(hb.block g (Array.getElem?_eq_some_iff.1 hh).1).trans hh,r⟩
theorem YgK{w w':World}{base:Nat}{e:TypeId}{sz n:Nat}{v:Value}{xs:List Value}{o:Obj}(h:w.ownsRow base e sz v n xs)(hg:(w.alloc o).grownBy w' v.ownBlock){k:Nat}(hk:k<base)(hk':k<w.heap.size) :
 w'.heap[k]?=w.heap[k]?:=
 (hg.block k ZX (fun he=>by have:=(h.lt k he.symm).1;omega)).trans (Below.heap_alloc w o k hk')
theorem Ybl{w w' a:World}{base B:Nat}{e:TypeId}{sz n:Nat}{v:Value}{xs:List Value}{o:Obj}(h:w.ownsRow base e sz v n xs)(hg:(w.alloc o).grownBy w' v.ownBlock)(hb:Below B a w)(hB:B≤base)(hB':B≤w.heap.size) :
 Below B a w':=
 (hb.alloc hB' o).grown hg ZX (fun k hk=>by have:=(h.lt k hk).1;omega)
theorem YgL{w a w':World}{base:Nat}{e:TypeId}{sz n:Nat}{v:Value}{xs:List Value}(h:w.ownsRow base e sz v n xs)(hg:a.grownBy w' v.ownBlock)(p:Addr)(hp:p.block<base∨w.heap.size≤p.block)(ha:p.block<a.heap.size) :
 w'.cell? p=a.cell? p:=
 World.cell?_of_block (w:=a) (hg.block p.block ha (fun he=>by have:=h.lt p.block he.symm;omega))
end Go.Proofs.YtjlclkcmfokobaaGreatDoor
namespace Go.Proofs.YtjlclkcmfokobaaGreatDoor
open Go.RowKit
set_option maxRecDepth 100000
theorem YL{α:Type}{l:List α}{i:Nat}(h:i<l.length)(d:α):l.getD i d=l[i]:=by simp[h]
def Yap(N:Nat)(l:List Nat):Nat→List Nat
 |0=>List.replicate N 0
 |n+1=>(Yap N l n).set (l.getD n 0) (n+1)
theorem Yd7{N:Nat}{l:List Nat}:∀n,(Yap N l n).length=N
 |0=>by simp[Yap]
 |n+1=>by rw[Yap,List.length_set,Yd7 n]
theorem Yj4{N:Nat}{l:List Nat}{b:Nat}:∀n,(Yap N l n).getD b 0≤n
 |0=>by simp[Yap,List.getD,List.getElem?_replicate];split<;>simp
 |n+1=>by
  have ih:=Yj4 (N:=N) (l:=l) (b:=b) n;rw[Yap,List.getD,List.getElem?_set];split
  · split
    · exact ZS
    · exact ZS
  · rw[← List.getD_eq_getElem?_getD];omega
theorem Ye4{N:Nat}{l:List Nat}{b:Nat}:∀n,n≤l.length→(b∉l.take n)→(Yap N l n).getD b 0=0
 |0,_,_=>by simp[Yap,List.getD,List.getElem?_replicate];split<;>simp
 |n+1,hn,h=>by
  rw[List.take_succ_eq_append_getElem ZO]at h;simp only[List.mem_append,List.mem_singleton,not_or]at h;have hg:l.getD n 0=l[n]:=by simp[List.getD,show n<l.length from ZO]
  rw[Yap,hg,List.getD,List.getElem?_set_ne (fun e=>h.2 e.symm),← List.getD_eq_getElem?_getD];exact Ye4 n ZO h.1
theorem Yd8{N:Nat}{l:List Nat}(hnd:l.Nodup)(hlt:∀x∈l,x<N):∀n,n≤l.length→∀i (hi:i<l.length),i<n→(Yap N l n).getD l[i] 0=i+1
 |0,_,i,_,h=>absurd h (Nat.not_lt_zero _)
 |n+1,hn,i,hi,h=>by
  have hg:l.getD n 0=l[n]'(ZO):=by simp[List.getD,show n<l.length from ZO]
  rw[Yap,hg]
  by_cases e:i=n
  · subst e
    have:l[i]<(Yap N l i).length:=by rw[Yd7];exact hlt _ (List.getElem_mem hi)
    simp[List.getD,List.getElem?_set_self this]
  · have hne:l[n]'(ZO)≠l[i]:=fun e'=>e ((List.getElem_inj hnd).1 e').symm
    rw[List.getD,List.getElem?_set_ne hne,← List.getD_eq_getElem?_getD];exact Yd8 hnd hlt n ZO i hi ZO
theorem YgM:∀{l:List Nat},l.Pairwise (fun a b=>a≠b)→l.Pairwise (fun a b=>b≠a)
 |[],_=>.nil
 |_::_,h=>by
  rw[List.pairwise_cons]at h ⊢;exact⟨fun x hx e=>h.1 x hx e.symm,YgM h.2⟩
theorem Ye5{l:List Nat}(h:l.Nodup):l.reverse.Nodup:=by
 unfold List.Nodup at *;rw[List.pairwise_reverse];exact YgM h
def pl(N:Nat)(l:List Nat)(b:Nat):Nat:=(Yap N l l.length).getD b 0
end Go.Proofs.YtjlclkcmfokobaaGreatDoor
