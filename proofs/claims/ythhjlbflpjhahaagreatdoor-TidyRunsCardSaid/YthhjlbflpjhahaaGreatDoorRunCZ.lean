/- Cells of rows that were copied; of phis what comes from a block. -/
import Derived.Test.YthhjlbflpjhahaaGreatDoorRunSZ
import Derived.Test.YthhjlbflpjhahaaGreatDoorSchZ
import Derived.Test.YthhjlbflpjhahaaGreatDoorMonLZ
namespace Go.Proofs.YthhjlbflpjhahaaGreatDoor
open Go.RowKit
set_option maxRecDepth 100000
def CellsAt(w:World)(B:Nat)(v:Value)(n:Nat)(xs:List Value):Prop:=∃A c,v=.slice A n c∧n≤c∧∀i u,xs[i]?=some u→∃g,A=some ⟨g,0,none⟩∧B≤g∧g<w.heap.size∧w.cell? ⟨g,i,none⟩=some u
theorem CellsAt.below{w w':World}{B:Nat}{v:Value}{n:Nat}{xs:List Value}(h:CellsAt w B v n xs)(hb:Below w.heap.size w w'):CellsAt w' B v n xs:=by
 obtain⟨A,c,hv,hc,hx⟩:=h;refine⟨A,c,hv,hc,fun i u hi=>?_⟩;obtain⟨g,hg,hB,hl,hcell⟩:=hx i u hi;exact⟨g,hg,hB,Nt hl hb.size,(hb.cell (p:=⟨g,i,none⟩) hl).trans hcell⟩
theorem own_cellsF{w:World}{B e g n cap:Nat}{xs:List Value}(h:w.ownsRow B e 1 (.slice (some ⟨g,0,none⟩) n cap) n xs):∀i u,xs[i]?=some u→w.cell? ⟨g,i,none⟩=some u:=fun i u hi=>by
 have h1:=h.1;have h2:=(List.getElem?_eq_some_iff.1 hi).1;rw[h.cellAt i ZO];exact hi
theorem run_cloneF{P:Program}(w:World){B:Nat}(hB:B≤w.heap.size){t ty e:TypeId}{z:Value}{bytes:Nat}(ht:P.underlying t=some (.slice e))(hinf:(P.info? e).map (fun i=>(i.zero,i.size,i.bytes))=some (some z,1,bytes))(hby:bytes≤64)
 (a:Addr) (g n c:Nat) (xs:List Value) (hl:xs.length=n) (hc:∀i u,xs[i]?=some u→w.cell? ⟨g,i,none⟩=some u) (hn:n≤1048576) :
 ∃v' w',(Builtin.append_ #[t,t] ty #[.slice (some a) 0 0,.slice (some ⟨g,0,none⟩) n c]).run P w=.ok v' w'∧CellsAt w' B v' n xs∧Below w.heap.size w w':=by
 obtain⟨i,hi,hz,hsz,hb⟩:=info_parts hinf
 by_cases h0:n=0
 · subst h0
   have:xs=[]:=List.eq_nil_of_length_eq_zero hl;subst this;refine⟨.slice (some a) 0 0,w,?_,⟨some a,0,rfl,Nr _,fun i u h=>by simp at h⟩,Br _ _⟩;have hf:=run_firstCells_some (P:=P) w i.size 0 ⟨g,0,none⟩ 0 c [] ZS ZS;simp[Builtin.append_,run_underlying ht,sizeOf,typeInfo,hi,Builtin.lenOf,hf,storeCells]
 · have hr:=run_append_grow (P:=P) w t ty e i z ht hi hz a 0 0 [] ZS ZS ⟨g,0,none⟩ n c xs (by rw[hsz];omega) (fun j u hj=>by rw[Addr.add_lit,Nat.zero_add];exact hc j u hj) ZO ZO (by
    rw[Nat.zero_add,nextslicecap_zero ZO,hb]
    calc n*bytes≤1048576*64:=Nat.mul_le_mul hn hby
     _≤281474976710656:=ZD)
   rw[Nat.zero_add]at hr;refine⟨_,_,hr,⟨_,_,rfl,?_,fun j u hj=>⟨w.heap.size,rfl,hB,ZS,?_⟩⟩,((Br _ _).drew).alloc ZS _⟩
   · exact grownCap_ge w n 0 e
   · have hg:=heap_alloc_new w.drew (.cells (([]:List Value).toArray++xs.toArray++Builtin.zeroCells z.cells (grownCap w n 0 e-n)) e)
     rw[heap_drew]at hg;rw[cell_of_row _ _ _ _ _ _ hg];have:=(List.getElem?_eq_some_iff.1 hj).1;simp[Array.getElem?_append,this];exact(List.getElem?_eq_some_iff.1 hj).2
theorem atOf_drop{b:Int}:∀{fs l:List Int} {j:Nat},j<fs.length→fs.length=l.length→atOf (fs.drop j) (l.drop j) b=if ith fs j=b then ith l j else atOf (fs.drop (j+1)) (l.drop (j+1)) b:=by
 intro fs l j hj hl;rw[List.drop_eq_getElem_cons hj,List.drop_eq_getElem_cons (show j<l.length from ZO)];show(if fs[j]=b then l[j] else atOf (fs.drop (j+1)) (l.drop (j+1)) b)=_;simp[ith,List.getD_eq_getElem?_getD,hj,show j<l.length from ZO]
theorem atOf_end{b:Int}{fs l:List Int}{j:Nat}(h:fs.length≤j):atOf (fs.drop j) (l.drop j) b=-1:=by
 rw[List.drop_eq_nil_of_le h];unfold atOf;rfl
theorem gotR_succ{b:PBlock}{x:Int}{k:Nat}(h:k<b.phis.length):gotR (b.phis.take (k+1)) x=gotR (b.phis.take k) x++[atOf (b.phi k).froms (b.phi k).args x]:=by
 unfold gotR;rw[List.take_add_one,PBlock.phi_get h];simp
theorem moveR_snoc{o:RSt}:∀(ps:List PPhi) (gs:List Int) (p:PPhi) (g:Int) (s:RSt),ps.length=gs.length→moveR o (ps++[p]) (gs++[g]) s=(((moveR o ps gs s).setI p.dst (o.int g)).setB p.dst (o.boo g)).setA p.dst (o.arr g)
 |[],[],_,_,_,_=>rfl
 |[],_::_,_,_,_,h=>by simp at h
 |_::_,[],_,_,_,h=>by simp at h
 |q::ps,y::gs,p,g,s,h=>by
  rw[List.cons_append,List.cons_append,moveR,moveR];exact moveR_snoc ps gs p g _ (by simpa using h)
theorem gotR_len{ps:List PPhi}{x:Int}:(gotR ps x).length=ps.length:=by simp[gotR]
theorem gotR_at{b:PBlock}{x:Int}{k:Nat}(h:k<b.phis.length):ith (gotR b.phis x) k=atOf (b.phi k).froms (b.phi k).args x:=by
 unfold ith gotR;rw[List.getD_eq_getElem?_getD,List.getElem?_map,PBlock.phi_get h];rfl
theorem got_var{F:PFunc}{b:PBlock}{x:Int}{k:Nat}(h:k<b.phis.length)(hp:phiB F (b.phi k)=true)(hn:(gotR b.phis x).any (fun g=>decide (g<0))=false):∃j:Nat,ith (gotR b.phis x) k=j∧j<F.vars.length:=by
 have hm:ith (gotR b.phis x) k∈gotR b.phis x:=ith_mem (by rw[gotR_len];exact h);have h1:¬ith (gotR b.phis x) k<0:=by
  have:=List.any_eq_false.1 hn _ hm;simpa using this
 rw[gotR_at h]at h1 ⊢;unfold phiB at hp;simp only[Bool.and_eq_true]at hp;rcases atOf_case (b.phi k).froms (b.phi k).args x with h2|h2
 · exact ZO
 · have:=inB_true (List.all_eq_true.1 hp.1.2 _ h2)
   exact⟨(atOf (b.phi k).froms (b.phi k).args x).toNat,ZO,ZO⟩
theorem run_append_ints{P:Program}(w:World){t ty:TypeId}(base:Nat)(e:TypeId)(ht:P.underlying t=some (.slice e)){z:Value}(hinf:(P.info? e).map (fun i=>(i.zero,i.size,i.bytes))=some (some z,1,8))(hz1:z.cells.size=1)
 (v:Value) (n:Nat) (xs:List Int) (hown:w.ownsRow base e 1 v n (xs.map (Value.int .i64))) {B:Nat} {A:Option Addr} {ys:List Int} {c:Nat} (hr:Rd B A ys 1 (IntC w)) (h63:n+ys.length≤1048576) (hbase:base≤w.heap.size) :
 ∃v' w',(Builtin.append_ #[t,t] ty #[v,.slice A ys.length c]).run P w=.ok v' w'∧w'.ownsRow base e 1 v' (n+ys.length) ((xs++ys).map (Value.int .i64))∧w.grownBy w' v.ownBlock:=by
 obtain⟨i,hi,hz,hsz,hb⟩:=info_parts hinf;rcases A with _|ad
 · have hy:ys=[]:=by
    cases ys with
    |nil=>rfl
    |cons y r=>obtain⟨b,off,he,-⟩:=hr 0 y rfl;cases he
   subst hy;refine⟨v,w,?_,by simpa using hown,World.grownBy.refl w _⟩;rcases hown.2 with⟨rfl,rfl⟩|⟨g,cap,cur,rfl,_,_,hnc,_⟩
   · simp[Builtin.append_,run_underlying ht,sizeOf,typeInfo,hi,Builtin.lenOf,Builtin.firstCells]
   · simp[Builtin.append_,run_underlying ht,sizeOf,typeInfo,hi,Builtin.lenOf,Builtin.firstCells,hnc,storeCells]
 · have hcells:∀j u,(ys.map (Value.int .i64))[j]?=some u→w.cell? (ad.add j)=some u:=fun j u hu=>by
    have hj:j<ys.length:=by have:=(List.getElem?_eq_some_iff.1 hu).1;simpa using this
    obtain⟨b,off,he,hbl,hc⟩:=hr j _ (ith_get hj);cases he;rw[Addr.add_lit];rw[List.getElem?_map,ith_get hj]at hu;simp only[Option.map_some,Option.some.injEq]at hu;rw[← hu];unfold IntC at hc;simpa using hc
   obtain⟨v',w',hrun,h2,h3,-,-⟩:=run_append_own_at (P:=P) w base t ty e i z 1 8 ht hi hz hsz hb hz1 ZD v n _ hown ad ys.length c (ys.map (Value.int .i64)) ZS hcells (fun u hu=>by obtain⟨x,-,rfl⟩:=List.mem_map.1 hu;rfl) (by unfold maxLen;omega) ZO hbase;exact⟨v',w',hrun,by simpa using h2,h3⟩
theorem run_cloneI{P:Program}(w:World){t ty:TypeId}(e:TypeId)(ht:P.underlying t=some (.slice e)){z:Value}(hinf:(P.info? e).map (fun i=>(i.zero,i.size,i.bytes))=some (some z,1,8))(hz1:z.cells.size=1)
 {A:Option Addr} {ys:List Int} {c:Nat} (hr:Rd w.heap.size A ys 1 (IntC w)) (hl:ys.length≤1048576) :
 ∃v' w',(Builtin.append_ #[t,t] ty #[.slice (some ⟨w.heap.size,0,none⟩) 0 0,.slice A ys.length c]).run P (w.alloc (.cells #[] e))=.ok v' w'∧w'.ownsRow w.heap.size e 1 v' ys.length (ys.map (Value.int .i64))∧Below w.heap.size w w':=by
 have hb:Below w.heap.size w (w.alloc (.cells #[] e)):=(Br _ _).alloc (Nr _) _;have h0:(w.alloc (.cells #[] e)).ownsRow w.heap.size e 1 (.slice (some ⟨w.heap.size,0,none⟩) 0 0) 0 (([]:List Int).map (Value.int .i64)):=World.ownsRow_lit w #[] 0 (Nr _) (Nz _) rfl;obtain⟨v',w',h1,h2,h3⟩:=run_append_ints (P:=P) (w.alloc (.cells #[] e)) (ty:=ty) w.heap.size e ht hinf hz1 _ 0 [] h0 (hr.move hb) (c:=c) ZO ZS;refine⟨v',w',h1,by simpa using h2,?_⟩;exact hb.grown h3 ZS (fun k hk=>by simp only[Value.ownBlock,Option.some.injEq]at hk;omega)
end Go.Proofs.YthhjlbflpjhahaaGreatDoor
namespace Go.Proofs.YthhjlbflpjhahaaGreatDoor
open Go
section
variable {P:Program} {Q:Exit→Act→World→Prop} {S:World→Prop}
end
end Go.Proofs.YthhjlbflpjhahaaGreatDoor
