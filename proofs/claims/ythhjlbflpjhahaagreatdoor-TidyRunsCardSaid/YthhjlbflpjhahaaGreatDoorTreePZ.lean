/- The walk of dom.nearest: the nearest block above each one. -/
import Derived.Test.YthhjlbflpjhahaaGreatDoorAboveZ
import Derived.Test.YthhjlbflpjhahaaGreatDoorPredsZ
import Derived.Deep.LoopGhost
import Derived.Maps.AppendAt
namespace Go.Proofs.YthhjlbflpjhahaaGreatDoor
open Go.RowKit
set_option maxRecDepth 100000
structure NearOk (n:Nat) (O:List Nat) (P:Nat→List Nat) (L:List (Option Nat)):Prop where
 len:L.length=n
 zero:fnO L 0=some 0
 tok:TOk (·∈O) (pz n O) (fnO L)
 all:∀{b},b∈O→fnO L b≠none
 dom:∀{b d},b∈O→(Anc (fnO L) d b↔¬Avoid (fun a b=>a∈P b) d b)
structure NI (w wr:World) (n gn ga cb:Nat) (L AT:List (Option Nat)):Prop where
 hb:Below w.heap.size w wr
 hn:wr.ownsRow w.heap.size 3 1 (.slice (some ⟨gn,0,none⟩) n n) n (valsO L)
 ha:wr.ownsRow w.heap.size 3 1 (.slice (some ⟨ga,0,none⟩) n n) n (valsO AT)
 c:cb<wr.heap.size
 c0:wr.cell? ⟨cb,0,none⟩=some (.slice (some ⟨gn,0,none⟩) n n)
 c1:wr.cell? ⟨cb,1,none⟩=some (.slice (some ⟨ga,0,none⟩) n n)
 d1:gn≠ga
 d2:gn≠cb
 d3:ga≠cb
section
variable {w wr w':World} {n gn ga cb i:Nat} {L AT:List (Option Nat)} {o:Option Nat}
end
end Go.Proofs.YthhjlbflpjhahaaGreatDoor
namespace Go.Proofs.YthhjlbflpjhahaaGreatDoor
open Go.RowKit
structure LvP (O:List Nat) (n:Nat) (N:Nat→Option Nat) (k:Nat) (V:List (Option Nat)):Prop where
 len:V.length=n
 zero:fnO V 0=some 0
 iff:∀{b},fnO V b≠none↔b∈O.take (k+1)
 up:∀{b j},b≠0→fnO V b=some j→∃p i,N b=some p∧fnO V p=some i∧j=i+1
 le:∀{b j},fnO V b=some j→j≤pz n O b
section
variable {n k b p i:Nat} {O:List Nat} {P:Nat→List Nat} {L V:List (Option Nat)}
end
end Go.Proofs.YthhjlbflpjhahaaGreatDoor
namespace Go.Proofs.YthhjlbflpjhahaaGreatDoor
open Go.RowKit
set_option maxRecDepth 100000
theorem run_append1F{P:Program}(w:World){t ty:TypeId}(base:Nat)(e:TypeId)(bytes:Nat)(ht:P.underlying t=some (.slice e)){z:Value}(hinf:(P.info? e).map (fun i=>(i.zero,i.size,i.bytes))=some (some z,1,bytes))(hz1:z.cells.size=1)
 (v:Value) (n:Nat) (xs:List Value) (hown:w.ownsRow base e 1 v n xs) (u:Value) (h1:u.oneCell'=true) (h63:n<1048576) (hby:bytes≤64) (hbase:base≤w.heap.size) :
 ∃v' w',(Builtin.append_ #[t,t] ty #[v,.slice (some ⟨w.heap.size,0,none⟩) 1 1]).run P (w.alloc (.cells #[u] e))=.ok v' w'∧w'.ownsRow base e 1 v' (n+1) (xs++[u])∧(w.alloc (.cells #[u] e)).grownBy w' v.ownBlock∧
  ∀k,v'.ownBlock=some k→v.ownBlock=some k∨w.heap.size<k:=by
 obtain⟨i,hi,hz,hsz,hb⟩:=info_parts hinf;have hbytes:(n+1)*bytes≤140737488355328:=by
  calc(n+1)*bytes≤1048576*64:=Nat.mul_le_mul ZO hby
   _≤140737488355328:=by decide
 obtain⟨v',w',hr,h2,h3,-,h4⟩:=run_append_own_at (P:=P) (w:=w.alloc (.cells #[u] e)) base t ty e i z 1 bytes ht hi hz hsz hb hz1 ZD v n xs (hown.alloc (.cells #[u] e)) ⟨w.heap.size,0,none⟩ 1 1 [u] rfl (cell_new_one w u e) (by simpa using h1) (by unfold maxLen;omega) hbytes ZX;refine⟨v',w',hr,h2,h3,fun k hk=>?_⟩;rcases h4 with e|e
 · exact .inl (by rw[← e];exact hk)
 · rw[e]at hk
   cases hk;exact .inr ZS
theorem wp_append_run{P:Program}{o:Oper}{a:Act}{w w':World}{K:Act→World→Prop}{Q:Exit→Act→World→Prop}(s x:Operand)(t:TypeId)(ho:o.op=.call { callee:=.builtin .append,args:=#[s,x],argTypes:=#[t,t] })
 {v xv v':Value} (hs:a.eval s=v) (hx:a.eval x=xv) (hrun:(Builtin.append_ #[t,t] o.type #[v,xv]).run P w=.ok v' w') (hK:K (a.put o.dst v') w'):o.wp P a w K Q:=by
 unfold Oper.wp execOp;simp only[ho,resolve,invoke,builtin,Sem.run_bind,Sem.run_pure,Result.andThen_ok,List.map_toArray,List.map_cons,List.map_nil,hs,hx,hrun];exact hK
def avT(gn gl gf tb:Nat):Nat→Prop:=fun k=>k=gn∨k=gl∨k=gf∨k=tb
structure T1 (wb wr:World) (n gn gl gk gf tb:Nat) (L0 V:List (Option Nat)) (K:List (List Int)):Prop where
 hb:Below wb.heap.size wb wr
 hn:RowO wr gn L0
 hl:wr.ownsRow wb.heap.size 3 1 (.slice (some ⟨gl,0,none⟩) n n) n (valsO V)
 hk:OwnRows wr wb.heap.size 23 3 gk (avT gn gl gf tb) K
 hf:wr.ownsRow wb.heap.size 23 1 (.slice (some ⟨gf,0,none⟩) n n) n (List.replicate n (.slice none 0 0))
 ht:tb<wr.heap.size
 c0:wr.cell? ⟨tb,0,none⟩=some (.slice (some ⟨gn,0,none⟩) n n)
 c1:wr.cell? ⟨tb,1,none⟩=some (.slice (some ⟨gl,0,none⟩) n n)
 c2:wr.cell? ⟨tb,2,none⟩=some (.slice (some ⟨gk,0,none⟩) n n)
 c3:wr.cell? ⟨tb,3,none⟩=some (.slice (some ⟨gf,0,none⟩) n n)
 d:gn≠gl∧gn≠gk∧gn≠gf∧gn≠tb∧gl≠gk∧gl≠gf∧gl≠tb∧gk≠gf∧gk≠tb∧gf≠tb
section
variable {wb wr w' w3:World} {n gn gl gk gf tb i c:Nat} {L0 V:List (Option Nat)} {K:List (List Int)} {o:Option Nat}
end
def kidsF(L0:List (Option Nat)):Nat→List (List Int)
 |0=>List.replicate L0.length []
 |i+1=>match fnO L0 i with
  |none=>kidsF L0 i
  |some p=>addP i (kidsF L0 i) p
def kidRow(L0:List (Option Nat))(p:Nat):Nat→List Nat
 |0=>[]
 |i+1=>if fnO L0 i=some p then kidRow L0 p i++[i] else kidRow L0 p i
end Go.Proofs.YthhjlbflpjhahaaGreatDoor
namespace Go.Proofs.YthhjlbflpjhahaaGreatDoor
open Go.RowKit
def PA(L0:List (Option Nat))(N:Nat→Option Nat)(y b:Nat):Prop:=∃q,fnO L0 b=some q∧Anc N y q
def SF(O:List Nat)(P:Nat→List Nat)(L0:List (Option Nat))(N:Nat→Option Nat)(l:List Nat)(y c:Nat):Prop:=c∈l∧∃p,p∈P c∧p∈O∧Anc N y p∧¬PA L0 N y c
def SP(O:List Nat)(P:Nat→List Nat)(L0:List (Option Nat))(N:Nat→Option Nat)(l:List Nat)(b:Nat)(ps:List Nat)(y c:Nat):Prop:=SF O P L0 N l y c∨c=b∧∃p,p∈ps∧p∈O∧Anc N y p∧¬PA L0 N y b
def SC(O:List Nat)(P:Nat→List Nat)(L0:List (Option Nat))(N:Nat→Option Nat)(l:List Nat)(b:Nat)(ps:List Nat)(p:Nat)(cur:Option Nat)(y c:Nat):Prop:=SP O P L0 N l b ps y c∨c=b∧Anc N y p∧¬∃x,cur=some x∧Anc N y x
structure FrI (n:Nat) (S:Nat→Nat→Prop) (X:List (List Int)):Prop where
 len:X.length=n
 nod:∀x,x<n→(X.getD x []).Nodup
 mem:∀x,x<n→∀z:Int,z∈X.getD x []↔∃b:Nat,z=b∧S x b
section
variable {n x b c y p q:Nat} {S S':Nat→Nat→Prop} {X:List (List Int)} {O l ps:List Nat} {P:Nat→List Nat} {L L0:List (Option Nat)} {N:Nat→Option Nat} {cur:Option Nat}
def Climb(L0:List (Option Nat))(N:Nat→Option Nat)(b p:Nat):Option Nat→Prop
 |none=>fnO L0 b=none
 |some x=>Anc N x p∧∀q,fnO L0 b=some q→Anc N q x
open Classical in
noncomputable def frontL (n:Nat) (S:Nat→Nat→Prop) (x:Nat):List Nat:=(List.range n).filter fun b=>decide (S x b)
end
end Go.Proofs.YthhjlbflpjhahaaGreatDoor
