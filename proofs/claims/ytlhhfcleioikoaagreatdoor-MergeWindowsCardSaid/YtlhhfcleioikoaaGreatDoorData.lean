/- The plain data of a program (api.Func) and what it means that memory holds one. No program's code in sight. -/
import Derived.Test.YtlhhfcleioikoaaGreatDoorRows
import Derived.Test.YtlhhfcleioikoaaGreatDoorZed
import Derived.WalkKit
import Derived.WalkSpells
import Derived.WalkLawsBesides
import Derived.Lib.Hide
namespace Go.Proofs.YtlhhfcleioikoaaGreatDoor
open Go.RowKit
structure PVar where
 name:ByteArray
 ty:Int
structure PPhi where
 dst:Int
 args:List Int
 froms:List Int
structure PInst where
 op:Int
 dst:Int
 args:List Int
 num:Int
structure PTerm where
 kind:Int
 var:Int
 t0:Int
 t1:Int
structure PBlock where
 name:ByteArray
 phis:List PPhi
 insts:List PInst
 term:PTerm
structure PFunc where
 vars:List PVar
 params:List Int
 blocks:List PBlock
instance:Inhabited PVar:=⟨⟨ByteArray.empty,0⟩⟩
instance:Inhabited PPhi:=⟨⟨0,[],[]⟩⟩
instance:Inhabited PInst:=⟨⟨0,0,[],0⟩⟩
instance:Inhabited PTerm:=⟨⟨0,0,0,0⟩⟩
instance:Inhabited PBlock:=⟨⟨ByteArray.empty,[],[],default⟩⟩
instance:Inhabited PFunc:=⟨⟨[],[],[]⟩⟩
def ith(xs:List Int)(i:Nat):Int:=xs.getD i 0
def PFunc.var(F:PFunc)(i:Nat):PVar:=F.vars.getD i default
def PFunc.blk(F:PFunc)(i:Nat):PBlock:=F.blocks.getD i default
def PBlock.phi(b:PBlock)(i:Nat):PPhi:=b.phis.getD i default
def PBlock.inst(b:PBlock)(i:Nat):PInst:=b.insts.getD i default
theorem ith_get{xs:List Int}{i:Nat}(h:i<xs.length):xs[i]?=some (ith xs i):=by simp[ith,h]
theorem PFunc.var_get{F:PFunc}{i:Nat}(h:i<F.vars.length):F.vars[i]?=some (F.var i):=by simp[PFunc.var,h]
theorem PFunc.blk_get{F:PFunc}{i:Nat}(h:i<F.blocks.length):F.blocks[i]?=some (F.blk i):=by simp[PFunc.blk,h]
theorem PBlock.phi_get{F:PBlock}{i:Nat}(h:i<F.phis.length):F.phis[i]?=some (F.phi i):=by simp[PBlock.phi,h]
theorem PBlock.inst_get{F:PBlock}{i:Nat}(h:i<F.insts.length):F.insts[i]?=some (F.inst i):=by simp[PBlock.inst,h]
def Len(n:Nat):Prop:=n≤281474976710656
def Rd{α:Type}(B:Nat)(A:Option Addr)(xs:List α)(sz:Nat)(R:Nat→Nat→α→Prop):Prop:=
 ∀i x,xs[i]?=some x→∃b off,A=some ⟨b,off,none⟩∧b<B∧R b (off+i*sz) x
def Sl{α:Type}(B:Nat)(v:Value)(xs:List α)(sz:Nat)(R:Nat→Nat→α→Prop):Prop:=
 ∃A c,v=.slice A xs.length c∧Len xs.length∧xs.length≤c∧Rd B A xs sz R
def IntC(w:World)(b o:Nat)(x:Int):Prop:=w.cell? ⟨b,o,none⟩=some (.int .i64 x)
def SInts(w:World)(B:Nat)(v:Value)(xs:List Int):Prop:=Sl B v xs 1 (IntC w)
def VarC(w:World)(b o:Nat)(x:PVar):Prop:=x.name.size≤maxLen∧w.cell? ⟨b,o,none⟩=some (.string x.name)∧w.cell? ⟨b,o+1,none⟩=some (.int .i64 x.ty)
def SVars(w:World)(B:Nat)(v:Value)(xs:List PVar):Prop:=Sl B v xs 2 (VarC w)
def PhiC(w:World)(B:Nat)(b o:Nat)(x:PPhi):Prop:=w.cell? ⟨b,o,none⟩=some (.int .i64 x.dst)∧
 (∃v,w.cell? ⟨b,o+1,none⟩=some v∧SInts w B v x.args)∧∃v,w.cell? ⟨b,o+2,none⟩=some v∧SInts w B v x.froms
def SPhis(w:World)(B:Nat)(v:Value)(xs:List PPhi):Prop:=Sl B v xs 3 (PhiC w B)
def InstC(w:World)(B:Nat)(b o:Nat)(x:PInst):Prop:=w.cell? ⟨b,o,none⟩=some (.int .i64 x.op)∧w.cell? ⟨b,o+1,none⟩=some (.int .i64 x.dst)∧
 (∃v,w.cell? ⟨b,o+2,none⟩=some v∧SInts w B v x.args)∧w.cell? ⟨b,o+3,none⟩=some (.int .i64 x.num)
def SInsts(w:World)(B:Nat)(v:Value)(xs:List PInst):Prop:=Sl B v xs 4 (InstC w B)
def BlkC(w:World)(B:Nat)(b o:Nat)(x:PBlock):Prop:=x.name.size≤maxLen∧w.cell? ⟨b,o,none⟩=some (.string x.name)∧
 (∃v,w.cell? ⟨b,o+1,none⟩=some v∧SPhis w B v x.phis)∧(∃v,w.cell? ⟨b,o+2,none⟩=some v∧SInsts w B v x.insts)∧
 w.cell? ⟨b,o+3,none⟩=some (.int .i64 x.term.kind)∧w.cell? ⟨b,o+4,none⟩=some (.int .i64 x.term.var)∧w.cell? ⟨b,o+5,none⟩=some (.int .i64 x.term.t0)∧w.cell? ⟨b,o+6,none⟩=some (.int .i64 x.term.t1)
def SBlks(w:World)(B:Nat)(v:Value)(xs:List PBlock):Prop:=Sl B v xs 7 (BlkC w B)
def FnV(w:World)(B:Nat)(v:Value)(F:PFunc):Prop:=
 ∃v0 v1 v2,v=.agg #[v0,v1,v2]∧SVars w B v0 F.vars∧SInts w B v1 F.params∧SBlks w B v2 F.blocks
def PhiV(w:World)(B:Nat)(v:Value)(p:PPhi):Prop:=∃v1 v2,v=.agg #[.int .i64 p.dst,v1,v2]∧SInts w B v1 p.args∧SInts w B v2 p.froms
def InstV(w:World)(B:Nat)(v:Value)(p:PInst):Prop:=∃v1,v=.agg #[.int .i64 p.op,.int .i64 p.dst,v1,.int .i64 p.num]∧SInts w B v1 p.args
def TermV(v:Value)(t:PTerm):Prop:=v=.agg #[.int .i64 t.kind,.int .i64 t.var,.int .i64 t.t0,.int .i64 t.t1]
section
variable {α:Type} {B B':Nat} {w w':World} {v:Value} {A:Option Addr} {sz:Nat}
theorem Rd.keep{xs:List α}{R R':Nat→Nat→α→Prop}(h:Rd B A xs sz R)(hB:B≤B')(hR:∀b o x,b<B→R b o x→R' b o x):Rd B' A xs sz R':=
 fun i x hx=>by
  obtain⟨b,off,ha,hb,hr⟩:=h i x hx;exact⟨b,off,ha,ZO,hR _ _ _ hb hr⟩
theorem Sl.keep{xs:List α}{R R':Nat→Nat→α→Prop}(h:Sl B v xs sz R)(hB:B≤B')(hR:∀b o x,b<B→R b o x→R' b o x):Sl B' v xs sz R':=by
 obtain⟨A,c,hv,hl,hc,hr⟩:=h;exact⟨A,c,hv,hl,hc,hr.keep hB hR⟩
def Kept(B:Nat)(w w':World):Prop:=∀b o,b<B→w'.cell? ⟨b,o,none⟩=w.cell? ⟨b,o,none⟩
theorem Kept.of_below(h:Below B w w'):Kept B w w':=fun b o hb=>h.cell (p:=⟨b,o,none⟩) hb
theorem SInts.keep{xs:List Int}(h:SInts w B v xs)(hk:Kept B w w')(hB:B≤B'):SInts w' B' v xs:=
 Sl.keep h hB fun b o x hb hx=>by unfold IntC at *;rw[hk b o hb];exact hx
theorem SVars.keep{xs:List PVar}(h:SVars w B v xs)(hk:Kept B w w')(hB:B≤B'):SVars w' B' v xs:=
 Sl.keep h hB fun b o x hb hx=>by unfold VarC at *;rw[hk _ _ hb,hk _ _ hb];exact hx
theorem PhiC.keep{b o:Nat}{x:PPhi}(h:PhiC w B b o x)(hb:b<B)(hk:Kept B w w')(hB:B≤B'):PhiC w' B' b o x:=by
 obtain⟨h0,⟨v1,h1,s1⟩,v2,h2,s2⟩:=h;exact⟨by rw[hk _ _ hb];exact h0,⟨v1,by rw[hk _ _ hb];exact h1,s1.keep hk hB⟩,v2,by rw[hk _ _ hb];exact h2,s2.keep hk hB⟩
theorem InstC.keep{b o:Nat}{x:PInst}(h:InstC w B b o x)(hb:b<B)(hk:Kept B w w')(hB:B≤B'):InstC w' B' b o x:=by
 obtain⟨h0,h1,⟨v1,h2,s1⟩,h3⟩:=h;exact⟨by rw[hk _ _ hb];exact h0,by rw[hk _ _ hb];exact h1,⟨v1,by rw[hk _ _ hb];exact h2,s1.keep hk hB⟩,by rw[hk _ _ hb];exact h3⟩
theorem SPhis.keep{xs:List PPhi}(h:SPhis w B v xs)(hk:Kept B w w')(hB:B≤B'):SPhis w' B' v xs:=Sl.keep h hB fun _ _ _ hb hx=>PhiC.keep hx hb hk hB
theorem SInsts.keep{xs:List PInst}(h:SInsts w B v xs)(hk:Kept B w w')(hB:B≤B'):SInsts w' B' v xs:=Sl.keep h hB fun _ _ _ hb hx=>InstC.keep hx hb hk hB
theorem BlkC.keep{b o:Nat}{x:PBlock}(h:BlkC w B b o x)(hb:b<B)(hk:Kept B w w')(hB:B≤B'):BlkC w' B' b o x:=by
 obtain⟨hn,h0,⟨v1,h1,s1⟩,⟨v2,h2,s2⟩,h3,h4,h5,h6⟩:=h;exact⟨hn,by rw[hk _ _ hb];exact h0,⟨v1,by rw[hk _ _ hb];exact h1,s1.keep hk hB⟩,⟨v2,by rw[hk _ _ hb];exact h2,s2.keep hk hB⟩,by rw[hk _ _ hb];exact h3,by rw[hk _ _ hb];exact h4,by rw[hk _ _ hb];exact h5,by rw[hk _ _ hb];exact h6⟩
theorem SBlks.keep{xs:List PBlock}(h:SBlks w B v xs)(hk:Kept B w w')(hB:B≤B'):SBlks w' B' v xs:=Sl.keep h hB fun _ _ _ hb hx=>BlkC.keep hx hb hk hB
theorem FnV.keep{F:PFunc}(h:FnV w B v F)(hk:Kept B w w')(hB:B≤B'):FnV w' B' v F:=by
 obtain⟨v0,v1,v2,hv,s0,s1,s2⟩:=h;exact⟨v0,v1,v2,hv,s0.keep hk hB,s1.keep hk hB,s2.keep hk hB⟩
theorem PhiV.keep{F:PPhi}(h:PhiV w B v F)(hk:Kept B w w')(hB:B≤B'):PhiV w' B' v F:=by
 obtain⟨v1,v2,hv,s1,s2⟩:=h;exact⟨v1,v2,hv,s1.keep hk hB,s2.keep hk hB⟩
theorem InstV.keep{F:PInst}(h:InstV w B v F)(hk:Kept B w w')(hB:B≤B'):InstV w' B' v F:=by
 obtain⟨v1,hv,s1⟩:=h;exact⟨v1,hv,s1.keep hk hB⟩
end
theorem bcell{W w1:World}(hb:Below W.heap.size W w1):(∀b o,b<W.heap.size→w1.cell? ⟨b,o,none⟩=W.cell? ⟨b,o,none⟩)∧(∀b o,b<W.heap.size→w1.frozen? ⟨b,o,none⟩=W.frozen? ⟨b,o,none⟩):=
 ⟨fun b o h=>hb.cell (p:=⟨b,o,none⟩) h,fun b o h=>hb.frozen (p:=⟨b,o,none⟩) h⟩
theorem Rd.int{W w:World}{A:Option Addr}{xs:List Int}(h:Rd W.heap.size A xs 1 (IntC W))(hw:Below W.heap.size W w){i:Nat}(hi:i<xs.length) :
 ∃b off,A=some ⟨b,off,none⟩∧b<w.heap.size∧w.cell? ⟨b,off+i,none⟩=some (.int .i64 (ith xs i)):=by
 obtain⟨b,off,ha,hb,hr⟩:=h i _ (ith_get hi);refine⟨b,off,ha,by have:=hw.size;omega,?_⟩;rw[hw.cell (p:=⟨b,off+i,none⟩) hb];simpa[IntC]using hr
theorem Rd.var{W w:World}{A:Option Addr}{F:PFunc}(h:Rd W.heap.size A F.vars 2 (VarC W))(hw:Below W.heap.size W w){i:Nat}(hi:i<F.vars.length) :
 ∃b off,A=some ⟨b,off,none⟩∧b<w.heap.size∧(F.var i).name.size≤maxLen∧w.cell? ⟨b,off+i*2,none⟩=some (.string (F.var i).name)∧w.cell? ⟨b,off+i*2+1,none⟩=some (.int .i64 (F.var i).ty):=by
 obtain⟨b,off,ha,hb,hr⟩:=h i _ (PFunc.var_get hi);exact⟨b,off,ha,by have:=hw.size;omega,hr.1,(hw.cell (p:=⟨b,off+i*2,none⟩) hb).trans hr.2.1,(hw.cell (p:=⟨b,off+i*2+1,none⟩) hb).trans hr.2.2⟩
theorem Rd.phi{W w:World}{A:Option Addr}{b:PBlock}(h:Rd W.heap.size A b.phis 3 (PhiC W W.heap.size))(hw:Below W.heap.size W w){i:Nat}(hi:i<b.phis.length) :
 ∃bb off A1 c1 A2 c2,A=some ⟨bb,off,none⟩∧bb<w.heap.size∧w.cell? ⟨bb,off+i*3,none⟩=some (.int .i64 (b.phi i).dst)∧
  w.cell? ⟨bb,off+i*3+1,none⟩=some (.slice A1 (b.phi i).args.length c1)∧w.cell? ⟨bb,off+i*3+2,none⟩=some (.slice A2 (b.phi i).froms.length c2)∧
  Len (b.phi i).args.length∧Len (b.phi i).froms.length∧(b.phi i).args.length≤c1∧(b.phi i).froms.length≤c2∧Rd W.heap.size A1 (b.phi i).args 1 (IntC W)∧Rd W.heap.size A2 (b.phi i).froms 1 (IntC W):=by
 obtain⟨bb,off,ha,hb,h0,⟨v1,h1,A1,c1,rfl,l1,k1,r1⟩,v2,h2,A2,c2,rfl,l2,k2,r2⟩:=h i _ (PBlock.phi_get hi);exact⟨bb,off,A1,c1,A2,c2,ha,by have:=hw.size;omega,(hw.cell (p:=⟨bb,off+i*3,none⟩) hb).trans h0,(hw.cell (p:=⟨bb,off+i*3+1,none⟩) hb).trans h1,(hw.cell (p:=⟨bb,off+i*3+2,none⟩) hb).trans h2,l1,l2,k1,k2,r1,r2⟩
theorem Rd.inst{W w:World}{A:Option Addr}{b:PBlock}(h:Rd W.heap.size A b.insts 4 (InstC W W.heap.size))(hw:Below W.heap.size W w){i:Nat}(hi:i<b.insts.length) :
 ∃bb off A1 c1,A=some ⟨bb,off,none⟩∧bb<w.heap.size∧w.cell? ⟨bb,off+i*4,none⟩=some (.int .i64 (b.inst i).op)∧w.cell? ⟨bb,off+i*4+1,none⟩=some (.int .i64 (b.inst i).dst)∧
  w.cell? ⟨bb,off+i*4+2,none⟩=some (.slice A1 (b.inst i).args.length c1)∧w.cell? ⟨bb,off+i*4+3,none⟩=some (.int .i64 (b.inst i).num)∧
  Len (b.inst i).args.length∧(b.inst i).args.length≤c1∧Rd W.heap.size A1 (b.inst i).args 1 (IntC W):=by
 obtain⟨bb,off,ha,hb,h0,h1,⟨v1,h2,A1,c1,rfl,l1,k1,r1⟩,h3⟩:=h i _ (PBlock.inst_get hi);exact⟨bb,off,A1,c1,ha,by have:=hw.size;omega,(hw.cell (p:=⟨bb,off+i*4,none⟩) hb).trans h0,(hw.cell (p:=⟨bb,off+i*4+1,none⟩) hb).trans h1,(hw.cell (p:=⟨bb,off+i*4+2,none⟩) hb).trans h2,(hw.cell (p:=⟨bb,off+i*4+3,none⟩) hb).trans h3,l1,k1,r1⟩
theorem Rd.blk{W w:World}{A:Option Addr}{F:PFunc}(h:Rd W.heap.size A F.blocks 7 (BlkC W W.heap.size))(hw:Below W.heap.size W w){i:Nat}(hi:i<F.blocks.length) :
 ∃bb off A1 c1 A2 c2,A=some ⟨bb,off,none⟩∧bb<w.heap.size∧(F.blk i).name.size≤maxLen∧w.cell? ⟨bb,off+i*7,none⟩=some (.string (F.blk i).name)∧
  w.cell? ⟨bb,off+i*7+1,none⟩=some (.slice A1 (F.blk i).phis.length c1)∧w.cell? ⟨bb,off+i*7+2,none⟩=some (.slice A2 (F.blk i).insts.length c2)∧
  w.cell? ⟨bb,off+i*7+3,none⟩=some (.int .i64 (F.blk i).term.kind)∧w.cell? ⟨bb,off+i*7+4,none⟩=some (.int .i64 (F.blk i).term.var)∧
  w.cell? ⟨bb,off+i*7+5,none⟩=some (.int .i64 (F.blk i).term.t0)∧w.cell? ⟨bb,off+i*7+6,none⟩=some (.int .i64 (F.blk i).term.t1)∧
  Len (F.blk i).phis.length∧Len (F.blk i).insts.length∧(F.blk i).phis.length≤c1∧(F.blk i).insts.length≤c2∧Rd W.heap.size A1 (F.blk i).phis 3 (PhiC W W.heap.size)∧Rd W.heap.size A2 (F.blk i).insts 4 (InstC W W.heap.size):=by
 obtain⟨bb,off,ha,hb,hn,h0,⟨v1,h1,A1,c1,rfl,l1,k1,r1⟩,⟨v2,h2,A2,c2,rfl,l2,k2,r2⟩,h3,h4,h5,h6⟩:=h i _ (PFunc.blk_get hi);exact⟨bb,off,A1,c1,A2,c2,ha,by have:=hw.size;omega,hn,(hw.cell (p:=⟨bb,off+i*7,none⟩) hb).trans h0,(hw.cell (p:=⟨bb,off+i*7+1,none⟩) hb).trans h1,(hw.cell (p:=⟨bb,off+i*7+2,none⟩) hb).trans h2,(hw.cell (p:=⟨bb,off+i*7+3,none⟩) hb).trans h3,(hw.cell (p:=⟨bb,off+i*7+4,none⟩) hb).trans h4,(hw.cell (p:=⟨bb,off+i*7+5,none⟩) hb).trans h5,(hw.cell (p:=⟨bb,off+i*7+6,none⟩) hb).trans h6,l1,l2,k1,k2,r1,r2⟩
theorem ret_bool{a b:Bool}(h:a=b):Ending.returned (.bool a)=.returned (.bool b):=by rw[h]
theorem ret_bool'{a b:Bool}(h:a=true↔b=true):Ending.returned (.bool a)=.returned (.bool b):=by rw[Bool.eq_iff_iff.2 h]
theorem ret_int{k:IntKind}{a b:Int}(h:a=b):Ending.returned (.int k a)=.returned (.int k b):=by rw[h]
theorem FnV.open_{W:World}{v:Value}{F:PFunc}(h:FnV W W.heap.size v F):∃A0 c0 A1 c1 A2 c2,v=.agg #[.slice A0 F.vars.length c0,.slice A1 F.params.length c1,.slice A2 F.blocks.length c2]∧
 Len F.vars.length∧Len F.params.length∧Len F.blocks.length∧F.vars.length≤c0∧F.params.length≤c1∧F.blocks.length≤c2∧Rd W.heap.size A0 F.vars 2 (VarC W)∧Rd W.heap.size A1 F.params 1 (IntC W)∧Rd W.heap.size A2 F.blocks 7 (BlkC W W.heap.size):=by
 obtain⟨v0,v1,v2,rfl,⟨A0,c0,rfl,l0,k0,r0⟩,⟨A1,c1,rfl,l1,k1,r1⟩,A2,c2,rfl,l2,k2,r2⟩:=h;exact⟨A0,c0,A1,c1,A2,c2,rfl,l0,l1,l2,k0,k1,k2,r0,r1,r2⟩
theorem BL{B:Nat}{a w:World}(h:Below B a w:=by(focus repeat(first|assumption|exact Below.refl _ _|refine Below.drew ?_|refine Below.alloc ?_ (by first|omega|exact Below.size ZA|(simp;done)|(simp;omega)) _|refine Below.setCell ?_ (by first|omega|exact Below.size ZA|(simp;done)|(simp;omega)) _|refine below_setRow ?_ (by first|omega|exact Below.size ZA|(simp;done)|(simp;omega)) _|(refine Below.trans ?_ (Below.mono ZA ?_);rotate_left;exact(by first|omega|exact Below.size ZA|(simp;done)|(simp;omega)))))):Below B a w:=h
theorem BLN{B:Nat}{a w:World}(h:Below B a w:=by(focus repeat(first|assumption|exact Below.refl _ _|refine bdrewN ?_ _|refine Below.drew ?_|refine Below.alloc ?_ (by first|omega|exact Below.size ZA|(simp;done)|(simp;omega)) _))):Below B a w:=h
end Go.Proofs.YtlhhfcleioikoaaGreatDoor
