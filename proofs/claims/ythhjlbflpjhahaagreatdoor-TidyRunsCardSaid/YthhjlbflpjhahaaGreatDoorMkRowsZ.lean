/- A row of rows of structs that the call makes: each row its own block. -/
import Derived.Test.YthhjlbflpjhahaaGreatDoorSlcZ
import Derived.Test.YthhjlbflpjhahaaGreatDoorTreePZ
import Derived.Test.YthhjlbflpjhahaaGreatDoorPredsZ
import Derived.Test.YthhjlbflpjhahaaGreatDoorSchZ
import Derived.Test.YthhjlbflpjhahaaGreatDoorNewPZ
namespace Go.Proofs.YthhjlbflpjhahaaGreatDoor
open Go.RowKit
set_option maxRecDepth 100000
def RowsE{α:Type}(w:World)(base:Nat)(te:TypeId)(sz:Nat)(enc:α→List Value)(lo:Nat)(vs:List Value)(xss:List (List α)):Prop:=
 vs.length=xss.length∧
  (∀(i:Nat) (v:Value) (xs:List α),lo≤i→vs[i]?=some v→xss[i]?=some xs→w.ownsRow base te sz v xs.length (xs.flatMap enc))∧
  (∀(i j:Nat) (vi vj:Value) (b:Nat),lo≤i→lo≤j→i≠j→vs[i]?=some vi→vs[j]?=some vj→vi.ownBlock=some b→vj.ownBlock≠some b)
def OwnRowsE{α:Type}(w:World)(base:Nat)(ti te:TypeId)(sz:Nat)(enc:α→List Value)(g:Nat)(xss:List (List α)):Prop:=
 ∃vs:List Value,w.ownsRow base ti 1 (.slice (some ⟨g,0,none⟩) xss.length xss.length) xss.length vs∧RowsE w base te sz enc 0 vs xss
section
variable {α:Type} {w w' w3:World} {base g sz lo:Nat} {ti te:TypeId} {enc:α→List Value} {xss:List (List α)} {vs:List Value}
end
def encP(p:Int×Int):List Value:=[.int .i64 p.1,.int .i64 p.2]
def PlcC(w:World)(b o:Nat)(p:Int×Int):Prop:=w.cell? ⟨b,o,none⟩=some (.int .i64 p.1)∧w.cell? ⟨b,o+1,none⟩=some (.int .i64 p.2)
def SPlc(w:World)(B:Nat)(v:Value)(xs:List (Int×Int)):Prop:=Sl B v xs 2 (PlcC w)
section
variable {P:Program}
end
structure Ev where
 dst:Int
 blk:Nat
 pos:Int
def evPhi(F:PFunc)(i k:Nat):List Ev:=(List.range k).map fun j=>⟨((F.blk i).phi j).dst,i,-1⟩
def evIns(F:PFunc)(i k:Nat):List Ev:=(List.range k).map fun j=>⟨((F.blk i).inst j).dst,i,j⟩
def evBlk(F:PFunc)(i:Nat):List Ev:=evPhi F i (F.blk i).phis.length++evIns F i (F.blk i).insts.length
def evs(F:PFunc):Nat→List Ev
 |0=>[]
 |n+1=>evs F n++evBlk F n
def plc(e:Ev):Int×Int:=((e.blk:Int),e.pos)
def mkOf(l:List Ev)(v:Int):List (Int×Int):=(l.filter fun e=>e.dst==v).map plc
def mkRows(nv:Nat)(l:List Ev):List (List (Int×Int)):=(List.range nv).map fun(v:Nat)=>mkOf l (v:Int)
section
variable {F:PFunc} {nv i k v d:Nat} {l:List Ev} {e:Ev}
end
def evF(F:PFunc):List Ev:=evs F F.blocks.length
def makerOf(l:List (Int×Int)):Int×Int:=(l++[(-1,0)]).headD (-1,0)
def makerF(F:PFunc)(v:Int):Int×Int:=makerOf (mkOf (evF F) v)
def onceAt(F:PFunc)(v:Nat):Bool:=!(decide (1<(mkOf (evF F) (v:Int)).length)||decide (0<(mkOf (evF F) (v:Int)).length)&&decide (v<F.params.length))
def onceB(F:PFunc):Bool:=(List.range F.vars.length).all (onceAt F)
def aheadB(T:Nat→Nat→Bool)(m:Int×Int)(b:Nat)(at_:Int):Bool:=if m.1<0 then true else if m.1=(b:Int) then decide (m.2<at_) else T m.1.toNat b
def aheadV(F:PFunc)(T:Nat→Nat→Bool)(v:Int)(b:Nat)(at_:Int):Bool:=aheadB T (makerF F v) b at_
def pairOk(F:PFunc)(T:Nat→Nat→Bool)(p:PPhi)(k:Nat):Bool:=aheadV F T (ith p.args k) (ith p.froms k).toNat ((F.blk (ith p.froms k).toNat).insts.length:Int)
def phiBe(F:PFunc)(T:Nat→Nat→Bool)(p:PPhi):Bool:=(List.range p.args.length).all (pairOk F T p)
def instBe(F:PFunc)(T:Nat→Nat→Bool)(i k:Nat):Bool:=((F.blk i).inst k).args.all fun v=>aheadV F T v i (k:Int)
def termBe(F:PFunc)(T:Nat→Nat→Bool)(i:Nat):Bool:=decide ((F.blk i).term.kind=0)||aheadV F T (F.blk i).term.var i ((F.blk i).insts.length:Int)
def behindB(F:PFunc)(T:Nat→Nat→Bool)(i:Nat):Bool:=(F.blk i).phis.all (phiBe F T)&&(List.range (F.blk i).insts.length).all (instBe F T i)&&termBe F T i
def noPi(F:PFunc):Bool:=F.blocks.all fun b=>b.insts.all fun x=>decide (x.op<25)
section
variable {F:PFunc} {n k m:Nat}
end
def makersL(F:PFunc):List (Int×Int):=(List.range F.vars.length).map fun(v:Nat)=>makerF F (v:Int)
def RetMk(w:World)(F:PFunc)(e:Ending)(w':World):Prop:=∃g B,e=.returned (.slice (some ⟨g,0,none⟩) F.vars.length F.vars.length)∧w.heap.size≤B∧OwnRowsE w' B 122 148 2 encP g (mkRows F.vars.length (evF F))∧Below w.heap.size w w'
end Go.Proofs.YthhjlbflpjhahaaGreatDoor
