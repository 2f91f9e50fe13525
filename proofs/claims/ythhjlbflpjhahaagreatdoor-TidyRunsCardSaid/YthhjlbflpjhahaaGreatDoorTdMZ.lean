/- A whole row is put behind a row of one's own; and the rows of numbers of a program of one's own are turned in their place. -/
import Derived.Test.YthhjlbflpjhahaaGreatDoorSlcZ
import Derived.Test.YthhjlbflpjhahaaGreatDoorTreePZ
import Derived.Maps.AppendAt
import Derived.Test.YthhjlbflpjhahaaGreatDoorMemZ
import Derived.Test.YthhjlbflpjhahaaGreatDoorTdPZ
import Derived.Test.YthhjlbflpjhahaaGreatDoorMonLZ
import Derived.Test.YthhjlbflpjhahaaGreatDoorTdAZ
namespace Go.Proofs.YthhjlbflpjhahaaGreatDoor
open Go.RowKit
set_option maxRecDepth 100000
section
variable {α:Type}
theorem DRow.chunks{w:World}{D:Nat→Prop}{sz:Nat}{C:List Value→α→Prop}{v:Value}{xs:List α}(h:DRow w D sz C v xs) :
 ∃A c,∃ch:List (List Value),v=.slice A xs.length c∧ch.length=xs.length∧(∀(i:Nat) cs x,ch[i]?=some cs→xs[i]?=some x→cs.length=sz∧C cs x)∧(xs≠[]→∃a,A=some a∧∀j u,ch.flatten[j]?=some u→w.cell? (a.add j)=some u):=by
 obtain⟨A,c,rfl,-,-,hr⟩:=h;have hx:∀i:Fin xs.length,∃cs,cs.length=sz∧(∃b off,A=some ⟨b,off,none⟩∧∀j u,cs[j]?=some u→w.cell? ⟨b,off+i*sz+j,none⟩=some u)∧C cs xs[i]:=fun i=>by
  obtain⟨b,off,cs,h1,-,-,h2,h3,h4⟩:=hr i xs[i] ZS;exact⟨cs,h2,⟨b,off,h1,h3⟩,h4⟩
 obtain⟨fc,hfc⟩:=Classical.skolem.1 hx;refine⟨A,c,List.ofFn fc,rfl,ZS,fun i cs x e1 e2=>?_,fun hne=>?_⟩
 · rw[List.getElem?_ofFn]at e1
   have hi:i<xs.length:=(List.getElem?_eq_some_iff.1 e2).1;rw[dif_pos hi]at e1;cases e1;have e3:xs[i]=x:=(List.getElem?_eq_some_iff.1 e2).2;subst e3;exact⟨(hfc ⟨i,hi⟩).1,(hfc ⟨i,hi⟩).2.2⟩
 · have hp:0<xs.length:=List.length_pos_iff.2 hne
   have hall:∀c∈List.ofFn fc,c.length=sz:=fun c hc=>by
    obtain⟨i,rfl⟩:=List.mem_ofFn.1 hc;exact(hfc i).1
   obtain⟨-,⟨b,off,rfl,-⟩,-⟩:=hfc ⟨0,hp⟩;refine⟨_,rfl,fun j u hj=>?_⟩;have hjl:=(List.getElem?_eq_some_iff.1 hj).1;have hfl:(List.ofFn fc).flatten.length=xs.length*sz:=by
    rw[List.length_flatten,List.eq_replicate_of_mem (l:=(List.ofFn fc).map List.length) (a:=sz) (fun y hy=>by
     obtain⟨c,hc,rfl⟩:=List.mem_map.1 hy
     exact hall c hc)]
    simp
   rw[hfl]at hjl;have hs0:0<sz:=by
    rcases Nat.eq_zero_or_pos sz with rfl|h
    · simp at hjl
    · exact h
   obtain⟨i,k,hk,rfl⟩:∃i k,k<sz∧j=i*sz+k:=⟨j / sz,j%sz,Nat.mod_lt _ hs0,by rw[Nat.mul_comm];exact(Nat.div_add_mod j sz).symm⟩;have hi:i<xs.length:=by
    rcases Nat.lt_or_ge i xs.length with h|h
    · exact h
    · have:=Nat.mul_le_mul_right sz h
      omega
   have hci:(List.ofFn fc)[i]?=some (fc ⟨i,hi⟩):=by rw[List.getElem?_ofFn,dif_pos hi]
   rw[flat_at hall hci hk]at hj;obtain⟨-,⟨b',off',e1,e⟩,-⟩:=hfc ⟨i,hi⟩;cases e1;rw[Addr.add_lit,show off+(i*sz+k)=off+i*sz+k from ZO];exact e k u hj
theorem run_appendD{P:Program}{w:World}{base t ty:Nat}{e:TypeId}(sz bytes:Nat)(ht:P.underlying t=some (.slice e)){z:Value}(hinf:(P.info? e).map (fun i=>(i.zero,i.size,i.bytes))=some (some z,sz,bytes))(hz1:z.cells.size=sz)(hsz:0<sz)(hby:bytes≤64)
 {C:List Value→α→Prop} {D:Nat→Prop} {v u:Value} {xs ys:List α} (hR:RRow w base e sz C v xs) (hS:DRow w D sz C u ys) (hone:∀cs x,C cs x→∀y∈cs,y.oneCell'=true) (hn:xs.length+ys.length≤1048576) (hbase:base≤w.heap.size) :
 ∃A c w',(Builtin.append_ #[t,t] ty #[v,u]).run P w=.ok (.slice A (xs.length+ys.length) c) w'∧RRow w' base e sz C (.slice A (xs.length+ys.length) c) (xs++ys)∧w.grownBy w' v.ownBlock∧
  ((Value.slice A (xs.length+ys.length) c).ownBlock=v.ownBlock∨(Value.slice A (xs.length+ys.length) c).ownBlock=some w.heap.size):=by
 obtain⟨i,hi,hz,hisz,hb⟩:=info_parts hinf;obtain⟨B,cu,ch2,rfl,hl2,hc2,hrd⟩:=hS.chunks;obtain⟨ch,hl,hc,hr⟩:=hR
 by_cases h0:ys=[]
 · subst h0
   obtain⟨A,c,rfl⟩:=own_form hr;have hle:xs.length+0≤c:=by
    rcases hr.2 with⟨hv,h0⟩|⟨g,cap,cur,hv,-,-,hnc,-⟩
    · exact ZO
    · cases hv
      exact hnc
   refine⟨A,c,w,?_,⟨ch,by simpa using hl,by simpa using hc,by simpa using hr⟩,⟨rfl,rfl,rfl,Nr _,fun _ _ _=>rfl⟩,.inl rfl⟩;cases B with
   |none=>
    cases A with
    |none=>simp[Builtin.append_,run_underlying ht,sizeOf,typeInfo,hi,Builtin.lenOf,Builtin.firstCells]<;>(intro h;omega)
    |some b=>simp[Builtin.append_,run_underlying ht,sizeOf,typeInfo,hi,Builtin.lenOf,Builtin.firstCells,storeCells]<;>(intro h;omega)
   |some a=>
    have hf:=run_firstCells_some (P:=P) w i.size 0 a 0 cu [] ZS ZS;cases A with
    |none=>simp[Builtin.append_,run_underlying ht,sizeOf,typeInfo,hi,Builtin.lenOf,hf]<;>(intro h;omega)
    |some b=>simp[Builtin.append_,run_underlying ht,sizeOf,typeInfo,hi,Builtin.lenOf,hf,storeCells]<;>(intro h;omega)
 · obtain⟨a,rfl,hcell⟩:=hrd h0
   have hall:∀c∈ch2,c.length=sz:=fun cs hm=>by
    obtain⟨i,hi,rfl⟩:=List.getElem_of_mem hm;exact(hc2 i _ (ys[i]'(ZO)) (by simp[hi]) ZS).1
   have hfl:ch2.flatten.length=ys.length*sz:=by
    rw[List.length_flatten,List.eq_replicate_of_mem (l:=ch2.map List.length) (a:=sz) (fun y hy=>by
     obtain⟨c,hc,rfl⟩:=List.mem_map.1 hy
     exact hall c hc)]
    simp[hl2]
   have h1:∀u∈ch2.flatten,u.oneCell'=true:=fun u hu=>by
    obtain⟨cs,hcs,hu⟩:=List.mem_flatten.1 hu;obtain⟨i,hi,rfl⟩:=List.getElem_of_mem hcs;exact hone _ _ (hc2 i _ (ys[i]'(ZO)) (by simp[hi]) ZS).2 u hu
   have hbytes:(xs.length+ys.length)*bytes≤140737488355328:=by
    calc(xs.length+ys.length)*bytes≤1048576*64:=Nat.mul_le_mul hn hby
     _≤140737488355328:=by decide
   obtain⟨v',w',hr2,h2,h3,-,h4⟩:=run_append_own_at (P:=P) (w:=w) base t ty e i z sz bytes ht hi hz hisz hb hz1 hsz v xs.length ch.flatten hr a ys.length cu ch2.flatten hfl hcell h1 (by unfold maxLen;omega) hbytes hbase;obtain⟨A,c,rfl⟩:=own_form h2;refine⟨A,c,w',hr2,⟨ch++ch2,by simp[hl,hl2],fun i cs x e1 e2=>?_,by rw[List.length_append,List.flatten_append];exact h2⟩,h3,h4⟩
   by_cases hi:i<ch.length
   · rw[List.getElem?_append_left hi]at e1
     rw[List.getElem?_append_left ZO]at e2;exact hc i cs x e1 e2
   · rw[List.getElem?_append_right ZO]at e1 e2
     rw[hl]at e1;exact hc2 _ cs x e1 e2
end
theorem bel_alloc(w:World)(o:Obj):Below w.heap.size w (w.alloc o):=(Br _ _).alloc (Nr _) _
theorem wpList_append_runD{P:Program}{ops:Array Oper}{rest:List Oper}{o:Oper}{a:Act}{w w':World}{Q:Exit→Act→World→Prop}(hgd:o.guard=none)(s x:Operand)(t:TypeId)(ho:o.op=.call { callee:=.builtin .append,args:=#[s,x],argTypes:=#[t,t] }){u y v:Value}(hs:a.eval s=u)(hx:a.eval x=y)
 (hrun:(Builtin.append_ #[t,t] o.type #[u,y]).run P w=.ok v w') (h:wpList P ops Q rest (a.put o.dst v) w'):wpList P ops Q (o::rest) a w:=
 wpList_plain hgd fun _ hK=>wp_append_run s x t ho hs hx hrun (hK _ _ h)
def mixL{α:Type}(f:α→α)(m:Nat)(l:List α):List α:=(l.take m).map f++l.drop m
section
variable {α:Type} {f:α→α} {m:Nat} {l:List α}
theorem mixL_len:(mixL f m l).length=l.length:=by
 unfold mixL;rw[List.length_append,List.length_map,List.length_take,List.length_drop];omega
theorem mixL_at(h:m<l.length):(mixL f m l)[m]?=some l[m]:=by
 unfold mixL;rw[List.getElem?_append_right ZX];simp[List.length_take,Nat.min_eq_left (Nat.le_of_lt h),h]
theorem mixL_set(h:m<l.length):(mixL f m l).set m (f l[m])=mixL f (m+1) l:=by
 unfold mixL;have h1:((l.take m).map f).length=m:=by simp;omega
 rw[List.set_append_right _ _ ZO,h1,Nat.sub_self,List.drop_eq_getElem_cons h,Lz,List.take_add_one,List.getElem?_eq_getElem h,List.map_append];simp
theorem mixL_end:mixL f l.length l=l.map f:=by simp[mixL]
end
def pE(f:Int→Int)(m:Nat)(e:PPhi×Value×Value):PPhi×Value×Value:=({ e.1 with froms:=mixL f m e.1.froms },e.2)
def tE(f:Int→Int)(e:PPhi×Value×Value):PPhi×Value×Value:=(mphi f e.1,e.2)
theorem pE_zero{f:Int→Int}{e:PPhi×Value×Value}:pE f 0 e=e:=rfl
theorem pE_end{f:Int→Int}{e:PPhi×Value×Value}:pE f e.1.froms.length e=tE f e:=by
 unfold pE tE mphi;rw[mixL_end]
theorem rowsP_snd:∀{es es':List (PPhi×Value×Value)},es.map Prod.snd=es'.map Prod.snd→rowsP es=rowsP es'
 |[],[],_=>rfl
 |[],_::_,h=>by simp at h
 |_::_,[],h=>by simp at h
 |e::es,e'::es',h=>by
  simp only[List.map_cons,List.cons.injEq]at h;have:=rowsP_snd h.2;unfold rowsP at *;rw[List.flatMap_cons,List.flatMap_cons,this,h.1]
theorem mix_snd{f:Int→Int}{k:Nat}{es:List (PPhi×Value×Value)}:(mixL (tE f) k es).map Prod.snd=es.map Prod.snd:=by
 unfold mixL;rw[List.map_append,List.map_map]
 conv=>rhs;rw[← List.take_append_drop k es,List.map_append]
 rfl
theorem set_snd{es:List (PPhi×Value×Value)}{k:Nat}{e:PPhi×Value×Value}(h:es[k]?=some e)(p:PPhi):(es.set k (p,e.2)).map Prod.snd=es.map Prod.snd:=by
 rw[List.map_set];have h1:(es.map Prod.snd)[k]?=some e.2:=by rw[List.getElem?_map,h];rfl
 have hk:=(List.getElem?_eq_some_iff.1 h1).1;have h2:=(List.getElem?_eq_some_iff.1 h1).2;rw[← h2];exact List.set_getElem_self hk
theorem rowsP_mem{es:List (PPhi×Value×Value)}{e:PPhi×Value×Value}(h:e∈es):e.2.1∈rowsP es∧e.2.2∈rowsP es:=⟨List.mem_flatMap.2 ⟨e,h,ZS⟩,List.mem_flatMap.2 ⟨e,h,ZS⟩⟩
theorem rowsP_apart:∀{es:List (PPhi×Value×Value)} {i k:Nat} {e e':PPhi×Value×Value},(rowsP es).Pairwise Apart→es[i]?=some e→es[k]?=some e'→i≠k→Apart e.2.2 e'.2.2
 |[],i,k,e,e',_,h,_,_=>by simp at h
 |x::es,i,k,e,e',hp,h,h',hne=>by
  have hx:rowsP (x::es)=x.2.1::x.2.2::rowsP es:=rfl;rw[hx,List.pairwise_cons,List.pairwise_cons]at hp;cases i with
  |zero=>
   cases k with
   |zero=>exact absurd rfl hne
   |succ k=>
    simp at h h';subst h;exact hp.2.1 _ (rowsP_mem (List.mem_of_getElem? h')).2
  |succ i=>
   cases k with
   |zero=>
    simp at h h';subst h';exact(hp.2.1 _ (rowsP_mem (List.mem_of_getElem? h)).2).symm
   |succ k=>exact rowsP_apart hp.2.2 (by simpa using h) (by simpa using h') ZO
theorem rowsP_args:∀{es:List (PPhi×Value×Value)} {e e':PPhi×Value×Value},(rowsP es).Pairwise Apart→e∈es→e'∈es→Apart e.2.1 e'.2.2
 |[],e,e',_,h,_=>by simp at h
 |x::es,e,e',hp,h,h'=>by
  have hx:rowsP (x::es)=x.2.1::x.2.2::rowsP es:=rfl;rw[hx,List.pairwise_cons,List.pairwise_cons]at hp;rcases List.mem_cons.1 h with h1|h1
  · rcases List.mem_cons.1 h' with h2|h2
    · rw[h1,h2]
      exact hp.1 _ ZS
    · rw[h1]
      exact hp.1 _ (List.mem_cons_of_mem _ (rowsP_mem h2).2)
  · rcases List.mem_cons.1 h' with h2|h2
    · rw[h2]
      exact(hp.2.1 _ (rowsP_mem h1).1).symm
    · exact rowsP_args hp.2.2 h1 h2
def CPhT(w:World)(D:Nat→Prop)(base:Nat)(cs:List Value)(x:PPhi×Value×Value):Prop:=cs=[.int .i64 x.1.dst,x.2.1,x.2.2]∧DInts w D x.2.1 x.1.args∧OwnI w base x.2.2 x.1.froms
section
variable {w w':World} {base:Nat} {D:Nat→Prop} {v:Value} {es:List (PPhi×Value×Value)}
theorem heap_one{g m:Nat}{u:Value}{b:Nat}(h:b≠g):(w.setCell ⟨g,m,none⟩ u).heap[b]?=w.heap[b]?:=heap_set h
theorem from_put{k m n cap gf:Nat}{x:Int}{e:PPhi×Value×Value}(h:RRow w base 64 3 (CPhT w D base) v es)(hap:(rowsP es).Pairwise Apart)(hD:∀b,D b→∀e∈es,e.2.2.ownBlock≠some b)(hk:es[k]?=some e)(hv:e.2.2=.slice (some ⟨gf,0,none⟩) n cap) :
 RRow (w.setCell ⟨gf,m,none⟩ (.int .i64 x)) base 64 3 (CPhT (w.setCell ⟨gf,m,none⟩ (.int .i64 x)) D base) v (es.set k ({ e.1 with froms:=e.1.froms.set m x },e.2)):=by
 have hgf:e.2.2.ownBlock=some gf:=by rw[hv];rfl
 have hem:=List.mem_of_getElem? hk;obtain⟨cells,hO⟩:=h.own;have hint:NT [3] w gf:=by
  obtain⟨cs,-,-,ho⟩:=h.all_ e hem;exact own_nt ho.1 ZS gf (own_lt ho.1 hgf).1 hgf
 have hvg:∀b,v.ownBlock=some b→b≠gf:=fun b hb e1=>own_ne_nt hO ZD hint (by rw[hb,e1])
 have hT:Tr D D w (w.setCell ⟨gf,m,none⟩ (.int .i64 x)):=⟨ZS,fun b hb hl=>⟨heap_one (fun e1=>hD b hb e hem (by rw[hgf,e1])),hb⟩⟩;obtain⟨ch,hl,hc,hr⟩:=h;refine⟨ch,by simpa using hl,fun i cs y h1 h2=>?_,?_⟩
 · by_cases hi:k=i
   · subst hi
     have hke:k<es.length:=(List.getElem?_eq_some_iff.1 hk).1;rw[List.getElem?_set_self hke]at h2;cases h2;obtain⟨c1,c2,c3,c4⟩:=hc k cs e h1 hk;refine⟨c1,c2,c3.turn hT,?_,by simpa using c4.2⟩;have:=c4.1;rw[hv]at this ⊢;obtain⟨A,c,hv2⟩:=own_form this;simp only[Value.slice.injEq]at hv2;obtain⟨-,rfl,-⟩:=hv2;have h3:=(this.stored m (.int .i64 x)).1;simpa[List.map_set]using h3
   · rw[List.getElem?_set_ne hi]at h2
     obtain⟨c1,c2,c3,c4⟩:=hc i cs y h1 h2;exact⟨c1,c2,c3.turn hT,own_turn c4.1 fun b hb=>heap_one (fun e1=>rowsP_apart hap h2 hk (fun e=>hi e.symm) b hb (by rw[hgf,e1])),c4.2⟩
 · rw[List.length_set]
   exact own_turn hr fun b hb=>heap_one (hvg b hb)
theorem CPhT.row_turn(h:RRow w base 64 3 (CPhT w D base) v es)(hv:∀b,v.ownBlock=some b→w'.heap[b]?=w.heap[b]?)(hT:Tr D D w w')(hf:∀e∈es,∀b,e.2.2.ownBlock=some b→w'.heap[b]?=w.heap[b]?):RRow w' base 64 3 (CPhT w' D base) v es:=
 (h.mem (C':=CPhT w' D base) fun _ e he hc=>⟨hc.1,hc.2.1.turn hT,own_turn hc.2.2.1 (hf e he),hc.2.2.2⟩).turn hv fun _ _ h=>h
theorem CPhT.done{D':Nat→Prop}(h:RRow w base 64 3 (CPhT w D base) v es)(hD:∀b,b<w.heap.size→D b→D' b)(hf:∀e∈es,∀b,base≤b→e.2.2.ownBlock=some b→D' b):RRow w base 64 3 (CPhi w D') v (es.map Prod.fst):=
 (h.mem (C':=fun cs e=>CPhi w D' cs e.1) fun _ e he hc=>⟨_,_,hc.1,hc.2.1.turn (Tr.mono hD),DInts.of_own hc.2.2.1 hc.2.2.2 (hf e he)⟩).map Prod.fst fun _ _ h=>h
end
def D0(w0:World)(ps:List XBlk)(b:Nat):Prop:=NT [3] w0 b∧∀x∈ps,∀e∈x.es,e.2.2.ownBlock≠some b
def Dn(w0:World)(ps:List XBlk)(i b:Nat):Prop:=NT [3] w0 b∧∀j x,i≤j→ps[j]?=some x→∀e∈x.es,e.2.2.ownBlock≠some b
def CBD(w:World)(D:Nat→Prop)(base:Nat)(cs:List Value)(x:PBlock×Value×Value):Prop:=
 CBw cs x∧RRow w base 64 3 (CPhi w D) x.2.1 x.1.phis∧RRow w base 67 4 (CInst w D) x.2.2 x.1.insts
def Kx(x:XBlk)(b:Nat):Prop:=x.vi.ownBlock≠some b∧∀e∈x.es,e.2.2.ownBlock≠some b
structure TdI (F:PFunc) (w0 wN:World) (ps:List XBlk) (wr:World) (gO:Nat) (v0 v1 vall:Value) (L:List PBlock) (i:Nat) (vq:Value) (qs:List (PBlock×Value×Value)):Prop where
 map:qs.map Prod.fst=L
 box:BoxAt wr gO #[v0,v1,vq] 26
 hV:RRow wr wN.heap.size 78 2 CVar v0 F.vars
 hI:wr.ownsRow wN.heap.size 3 1 v1 F.params.length (F.params.map (Value.int .i64))
 hp:RRow wr wN.heap.size 62 7 CBw vall (ps.map XBlk.old)
 el:∀j x,isHd F j=false∨i≤j→ps[j]?=some x→RRow wr wN.heap.size 67 4 (CInst wr (D0 w0 ps)) x.vi x.b.insts
 ep:∀j x,i≤j→ps[j]?=some x→RRow wr wN.heap.size 64 3 (CPhT wr (D0 w0 ps) wN.heap.size) x.vp x.es
 hq:RRow wr wN.heap.size 62 7 (CBD wr (Dn w0 ps i) wN.heap.size) vq qs
 fvi:∀q∈qs,∀j x,isHd F j=false∨i≤j→ps[j]?=some x→Apart q.2.2 x.vi
 fvp:∀q∈qs,∀j x,i≤j→ps[j]?=some x→Apart q.2.1 x.vp
 nq:∀k,vq.ownBlock=some k→w0.heap.size≤k
 bel:Below wN.heap.size wN wr
 sz:w0.heap.size≤wr.heap.size
structure PsOk (w0:World) (base gO:Nat) (v0 v1 vall:Value) (ps:List XBlk):Prop where
 pw:ps.Pairwise BeforeX
 v1:∀b,v1.ownBlock=some b→NT [3] w0 b∧∀x∈ps,∀u∈x.rows,u.ownBlock≠some b
 ap:∀x∈ps,x.rows.Pairwise Apart
 me:∀x∈ps,x.es.map Prod.fst=x.b.phis
 ti:∀x∈ps,∀b,x.vi.ownBlock=some b→NT [67] w0 b∧b<w0.heap.size
 tp:∀x∈ps,∀b,x.vp.ownBlock=some b→NT [64] w0 b∧b<w0.heap.size
 va:∀b,vall.ownBlock=some b→b<w0.heap.size
 go:NT [26] w0 gO
 tf:∀x∈ps,∀u∈x.rows,∀b,u.ownBlock=some b→NT [3] w0 b∧b<w0.heap.size∧base≤b
theorem NT.two{w:World}{b s t:Nat}(h:NT [s] w b)(h':NT [t] w b):s=t:=by
 obtain⟨cs,x,h1,h2⟩:=h;obtain⟨cs',y,h3,h4⟩:=h';rw[h1]at h3;cases h3;simp at h2 h4;exact h2.symm.trans h4
theorem PsOk.of{w0 w1:World}{base gO:Nat}{v0 v1 vall:Value}{ps:List XBlk}(hgo:NT [26] w0 gO){B2:Nat}(hB2:base≤B2)(hv1:∀b,v1.ownBlock=some b→NT [3] w0 b∧b<B2)(h:RRow w1 B2 62 7 (CBS w1 B2) vall ps)(hb:Below w1.heap.size w1 w0)(hpw:ps.Pairwise BeforeX):PsOk w0 base gO v0 v1 vall ps:=by
 have hk:KT [3,64,67] w1 w0:=KT.of_below hb;have hsz:=hb.size;refine⟨hpw,fun b hb=>⟨(hv1 b hb).1,fun x hx u hu e=>?_⟩,fun x hx=>?_,fun x hx=>?_,fun x hx b hb=>?_,fun x hx b hb=>?_,fun b hb=>by have:=(h.lt hb).2;omega,hgo,fun x hx u hu b hb=>?_⟩
 · obtain⟨cs,hc⟩:=h.all_ x hx
   have h1:=(rows_lt hc u hu b e).1;have h2:=(hv1 b hb).2;omega
 · obtain⟨cs,hc⟩:=h.all_ x hx
   exact hc.ap
 · obtain⟨cs,hc⟩:=h.all_ x hx
   exact hc.me
 · obtain⟨cs,hc⟩:=h.all_ x hx
   obtain⟨cells,ho⟩:=hc.hi.own;have h1:=own_nt (ts:=[67]) ho ZS b (own_lt ho hb).1 hb;exact⟨h1.same (hk.blk b (h1.mono ZS)),by have:=(own_lt ho hb).2;omega⟩
 · obtain⟨cs,hc⟩:=h.all_ x hx
   obtain⟨cells,ho⟩:=hc.hp.own;have h1:=own_nt (ts:=[64]) ho ZS b (own_lt ho hb).1 hb;exact⟨h1.same (hk.blk b (h1.mono ZS)),by have:=(own_lt ho hb).2;omega⟩
 · obtain⟨cs,hc⟩:=h.all_ x hx
   have hlt:=rows_lt hc u hu b hb;have h1:NT [3] w1 b:=by
    rcases List.mem_append.1 hu with hu|hu
    · obtain⟨e,he,hu⟩:=List.mem_flatMap.1 hu
      obtain⟨cs,-,h1,h2⟩:=hc.hp.all_ e he;simp only[List.mem_cons,List.not_mem_nil,or_false]at hu;rcases hu with rfl|rfl
      · exact own_nt h1.1 ZS b (own_lt h1.1 hb).1 hb
      · exact own_nt h2.1 ZS b (own_lt h2.1 hb).1 hb
    · obtain⟨e,he,rfl⟩:=List.mem_map.1 hu
      obtain⟨cs,-,h1⟩:=hc.hi.all_ e he;exact own_nt h1.1 ZS b (own_lt h1.1 hb).1 hb
   exact⟨h1.same (hk.blk b (h1.mono ZS)),ZO,ZO⟩
section
variable {F:PFunc} {w0 wN wr w':World} {ps:List XBlk} {gO i:Nat} {v0 v1 vall vq:Value} {qs:List (PBlock×Value×Value)} {L:List PBlock}
theorem Dn.mono{b:Nat}(h:Dn w0 ps i b):Dn w0 ps (i+1) b:=⟨h.1,fun j x hj=>h.2 j x ZO⟩
theorem D0.dn{b:Nat}(h:D0 w0 ps b):Dn w0 ps i b:=⟨h.1,fun _ x _ hx=>h.2 x (List.mem_of_getElem? hx)⟩
theorem CBD.turn{D D':Nat→Prop}{base:Nat}{cs:List Value}{x:PBlock×Value×Value}(h:CBD wr D base cs x)(hT:Tr D D' wr w')(hp:∀b,x.2.1.ownBlock=some b→w'.heap[b]?=wr.heap[b]?)(hi:∀b,x.2.2.ownBlock=some b→w'.heap[b]?=wr.heap[b]?):CBD w' D' base cs x:=
 ⟨h.1,h.2.1.turn hp fun _ _ h=>h.turn hT,h.2.2.turn hi fun _ _ h=>h.turn hT⟩
theorem bef_ne(h:ps.Pairwise BeforeX){j k:Nat}{x y:XBlk}(hj:ps[j]?=some x)(hk:ps[k]?=some y)(hne:j≠k):Apart x.vp y.vp∧Apart x.vi y.vi∧∀u∈x.rows,∀v∈y.rows,Apart u v:=by
 obtain⟨hj1,hj2⟩:=List.getElem?_eq_some_iff.1 hj;obtain⟨hk1,hk2⟩:=List.getElem?_eq_some_iff.1 hk;rcases Nat.lt_or_gt_of_ne hne with h1|h1
 · have hb:=List.pairwise_iff_getElem.1 h j k hj1 hk1 h1
   rw[hj2,hk2]at hb;exact⟨fun b e1 e2=>by have:=hb.vp b b e1 e2;omega,fun b e1 e2=>by have:=hb.vi b b e1 e2;omega,fun u hu v hv b e1 e2=>by have:=hb.rw u hu v hv b b e1 e2;omega⟩
 · have hb:=List.pairwise_iff_getElem.1 h k j hk1 hj1 h1
   rw[hj2,hk2]at hb;exact⟨fun b e1 e2=>by have:=hb.vp b b e2 e1;omega,fun b e1 e2=>by have:=hb.vi b b e2 e1;omega,fun u hu v hv b e1 e2=>by have:=hb.rw v hv u hu b b e2 e1;omega⟩
theorem rows_from{x:XBlk}{e:PPhi×Value×Value}(h:e∈x.es):e.2.2∈x.rows:=List.mem_append_left _ (rowsP_mem h).2
theorem TdI.kp{p:XBlk}(h:TdI F w0 wN ps wr gO v0 v1 vall L i vq qs)(ok:PsOk w0 wN.heap.size gO v0 v1 vall ps)(hpi:ps[i]?=some p)(hh:isHd F i=true)(hk:Kp (Kx p) wr w'):TdI F w0 wN ps w' gO v0 v1 vall L (i+1) vq qs:=by
 have hpm:=List.mem_of_getElem? hpi;have hin:∀b,p.vi.ownBlock=some b→NT [67] wr b:=fun b hb=>by
  obtain⟨cells,ho⟩:=(h.el i p (.inr (Nr _)) hpi).own;exact own_nt ho ZS b (own_lt ho hb).1 hb
 have hfr:∀e∈p.es,∀b,e.2.2.ownBlock=some b→NT [3] wr b:=fun e he b hb=>by
  obtain⟨cs,-,-,ho⟩:=(h.ep i p (Nr _) hpi).all_ e he;exact own_nt ho.1 ZS b (own_lt ho.1 hb).1 hb
 have kx:∀{b t:Nat},NT [t] wr b→t≠67→t≠3→Kx p b:=fun hb h1 h2=>⟨fun e=>h1 (NT.two hb (hin _ e)),fun e he e2=>h2 (NT.two hb (hfr e he _ e2))⟩
 have hto:KT [78,62,26,64] wr w':=⟨hk.size,fun b hb=>by
  obtain⟨cs,t,e1,e2⟩:=hb;have hb1:NT [t] wr b:=⟨cs,t,e1,ZS⟩;simp only[List.mem_cons,List.not_mem_nil,or_false]at e2
  exact hk.blk b (kx hb1 (by rcases e2 with rfl|rfl|rfl|rfl<;>decide) (by rcases e2 with rfl|rfl|rfl|rfl<;>decide)) hb1.lt⟩
 have ki:∀{b:Nat},NT [3] w0 b→(∀e∈p.es,e.2.2.ownBlock≠some b)→Kx p b:=fun hb hf=>⟨fun e=>absurd (NT.two hb (ok.ti p hpm _ e).1) ZD,hf⟩
 have tD:Tr (D0 w0 ps) (D0 w0 ps) wr w':=⟨hk.size,fun b hb hl=>⟨hk.blk b (ki hb.1 (hb.2 p hpm)) hl,hb⟩⟩;have tN:Tr (Dn w0 ps i) (Dn w0 ps (i+1)) wr w':=⟨hk.size,fun b hb hl=>⟨hk.blk b (ki hb.1 (hb.2 i p (Nr _) hpi)) hl,hb.mono⟩⟩;have kvi:∀{v:Value},Apart v p.vi→(∀b,v.ownBlock=some b→NT [67] wr b)→∀b,v.ownBlock=some b→w'.heap[b]?=wr.heap[b]?:=fun ha ht b hb=>
  hk.blk b ⟨fun e=>ha b hb e,fun e he e2=>absurd (NT.two (ht b hb) (hfr e he b e2)) ZD⟩ (ht b hb).lt
 have hown:∀{e sz:Nat} {α:Type} {C:List Value→α→Prop} {v:Value} {xs:List α},RRow wr wN.heap.size e sz C v xs→∀b,v.ownBlock=some b→NT [e] wr b:=fun hr b hb=>by
  obtain⟨cells,ho⟩:=hr.own;exact own_nt ho ZS b (own_lt ho hb).1 hb
 refine⟨h.map,?_,h.hV.kt hto ZS fun _ _ h=>h,own_turn h.hI fun b hb=>hk.blk b (ki (ok.v1 b hb).1 fun e he=>(ok.v1 b hb).2 p hpm _ (rows_from he)) (own_lt h.hI hb).2,h.hp.kt hto ZS fun _ _ h=>h,fun j x hj hx=>?_,fun j x hj hx=>?_,?_,fun q hq j x hj hx=>h.fvi q hq j x (hj.imp id ZO) hx,fun q hq j x hj hx=>h.fvp q hq j x ZO hx,h.nq,?_,Nat.le_trans h.sz hk.size⟩
 · exact(hk.blk gO (kx (t:=26) ⟨_,_,h.box,ZS⟩ ZD ZD) h.box.lt).trans h.box
 · have hne:j≠i:=by
    rintro rfl;rcases hj with hj|hj
    · rw[hh]at hj
      cases hj
    · exact ZO
   exact(h.el j x (hj.imp id ZO) hx).turn (kvi (bef_ne ok.pw hx hpi hne).2.1 (hown (h.el j x (hj.imp id ZO) hx))) fun _ _ h=>h.turn tD
 · refine CPhT.row_turn (h.ep j x ZO hx) (fun b hb=>hto.blk b ((hown (h.ep j x ZO hx) b hb).mono ZS)) tD fun e he b hb=>?_
   have h1:=ok.tf x (List.mem_of_getElem? hx) _ (rows_from he) b hb;have h2:=(bef_ne ok.pw hx hpi ZO).2.2 _ (rows_from he);obtain⟨cs,-,-,ho⟩:=(h.ep j x ZO hx).all_ e he;exact hk.blk b (ki h1.1 fun e' he' e2=>h2 _ (rows_from he') b hb e2) (own_lt ho.1 hb).2
 · refine RRow.turn (C:=CBD w' (Dn w0 ps (i+1)) wN.heap.size) (h.hq.mem fun cs q hq hc=>?_) (fun b hb=>hto.blk b ((hown h.hq b hb).mono ZS)) fun _ _ h=>h
   exact hc.turn tN (fun b hb=>hto.blk b ((hown hc.2.1 b hb).mono ZS)) (kvi (h.fvi q hq i p (.inr (Nr _)) hpi) (hown hc.2.2))
 · exact h.bel.trans (hk.to_below (fun b hb=>⟨fun e=>by
    have:=((h.el i p (.inr (Nr _)) hpi).lt e).1;omega,fun e he e2=>by
    have:=(ok.tf p hpm _ (rows_from he) b e2).2.2
    omega⟩) h.bel.size)
theorem TdI.skip(h:TdI F w0 wN ps wr gO v0 v1 vall L i vq qs):TdI F w0 wN ps wr gO v0 v1 vall L (i+1) vq qs:=
 ⟨h.map,h.box,h.hV,h.hI,h.hp,fun j x hj hx=>h.el j x (hj.imp id ZO) hx,fun j x hj hx=>h.ep j x ZO hx,
   h.hq.imp fun _ _ hc=>hc.turn (Tr.mono fun _ _ h=>h.mono) (fun _ _=>rfl) (fun _ _=>rfl),fun q hq j x hj hx=>h.fvi q hq j x (hj.imp id ZO) hx,fun q hq j x hj hx=>h.fvp q hq j x ZO hx,h.nq,h.bel,h.sz⟩
theorem CPhT.kt{ts:List TypeId}{w w':World}{base:Nat}{D:Nat→Prop}{cs:List Value}{x:PPhi×Value×Value}(h:CPhT w D base cs x)(hk:KT ts w w')(hi:3∈ts)(hT:Tr D D w w'):CPhT w' D base cs x:=⟨h.1,h.2.1.turn hT,h.2.2.kt hk hi⟩
theorem TdI.snoc{wz w3:World}{v' vx vy:Value}{B:PBlock}{cells cellsq:List Value}(h:TdI F w0 wN ps wz gO v0 v1 vall L (i+1) vq qs)(ok:PsOk w0 wN.heap.size gO v0 v1 vall ps)
 (hOq:wz.ownsRow wN.heap.size 62 7 vq qs.length cellsq) (hcs:CBw cells (B,vx,vy)) (hown3:w3.ownsRow wN.heap.size 62 7 v' (qs.length+1) (cellsq++cells)) (hgg:(wz.alloc (.cells cells.toArray 62)).grownBy w3 vq.ownBlock)
 (hR:RRow wz wN.heap.size 64 3 (CPhi wz (Dn w0 ps (i+1))) vx B.phis) (hI:RRow wz wN.heap.size 67 4 (CInst wz (Dn w0 ps (i+1))) vy B.insts)
 (hvi:∀j x,isHd F j=false∨i+1≤j→ps[j]?=some x→Apart vy x.vi) (hvp:∀j x,i+1≤j→ps[j]?=some x→Apart vx x.vp) (hfr:∀k,v'.ownBlock=some k→vq.ownBlock=some k∨wz.heap.size<k) (hgN:wN.heap.size≤gO) :
 TdI F w0 wN ps (w3.setCell ⟨gO,2,none⟩ v') gO v0 v1 vall (L++[B]) (i+1) v' (qs++[(B,vx,vy)]):=by
 have hgo3:BoxAt w3 gO #[v0,v1,vq] 26:=(h.box.alloc _).grown hgg (own_box_ne hOq h.box ZD);have hK:KT [3,64,67,78] wz (w3.setCell ⟨gO,2,none⟩ v'):=((KT.refl.alloc _).grown (hOq.alloc _) ZS hgg).setCell hgo3 ZS _;have hkeep:∀b,b<w0.heap.size→b≠gO→(w3.setCell ⟨gO,2,none⟩ v').heap[b]?=wz.heap[b]?:=fun b hb hne=>by
  have hbz:b<wz.heap.size:=Nt hb h.sz;rw[heap_set (p:=⟨gO,2,none⟩) hne,hgg.block b ZX (fun e=>by have:=h.nq b e.symm;omega),heap_alloc_old _ _ hbz]
 have hD:∀{D:Nat→Prop},(∀b,D b→NT [3] w0 b)→Tr D D wz (w3.setCell ⟨gO,2,none⟩ v'):=fun hd=>⟨hK.size,fun b hb _=>⟨hkeep b (hd b hb).lt (by
  rintro rfl
  exact absurd (NT.two (hd _ hb) ok.go) ZD),hb⟩⟩
 have tD:=hD (D:=D0 w0 ps) fun b h=>h.1
 have tN:=hD (D:=Dn w0 ps (i+1)) fun b h=>h.1
 have hmv:∀{q:PBlock×Value×Value} {cs:List Value},CBD wz (Dn w0 ps (i+1)) wN.heap.size cs q→CBD (w3.setCell ⟨gO,2,none⟩ v') (Dn w0 ps (i+1)) wN.heap.size cs q:=fun hc=>
  ⟨hc.1,hc.2.1.kt hK ZS fun _ _ h=>h.turn tN,hc.2.2.kt hK ZS fun _ _ h=>h.turn tN⟩
 have hpb:∀b,vall.ownBlock=some b→(w3.setCell ⟨gO,2,none⟩ v').heap[b]?=wz.heap[b]?:=fun b hb=>hkeep b (ok.va b hb) (by
  rintro rfl;obtain⟨cells',ho⟩:=h.hp.own
  exact own_box_ne ho h.box ZD hb)
 refine⟨by rw[List.map_append,h.map];rfl,by simpa using hgo3.set 2 v',h.hV.kt hK ZS fun _ _ h=>h,own_kt h.hI hK ZS,h.hp.turn hpb fun _ _ h=>h,fun j x hj hx=>(h.el j x hj hx).kt hK ZS fun _ _ h=>h.turn tD,fun j x hj hx=>(h.ep j x hj hx).kt hK ZS fun _ _ h=>h.kt hK ZS tD,?_,fun q hq j x hj hx=>?_,fun q hq j x hj hx=>?_,fun k hk=>?_,?_,Nat.le_trans h.sz hK.size⟩
 · exact RRow.snoc (cs:=cells) h.hq hOq (ownsRow_setCell_other hown3 (fun e=>own_box_ne hown3 hgo3 ZD e) _) (by rw[hcs.1];rfl) (fun _ _ h=>hmv h) (hmv ⟨hcs,hR,hI⟩)
 · rcases List.mem_append.1 hq with hq|hq
   · exact h.fvi q hq j x hj hx
   · rw[List.mem_singleton]at hq
     subst hq;exact hvi j x hj hx
 · rcases List.mem_append.1 hq with hq|hq
   · exact h.fvp q hq j x hj hx
   · rw[List.mem_singleton]at hq
     subst hq;exact hvp j x hj hx
 · rcases hfr k hk with e|e
   · exact h.nq k e
   · have:=h.sz
     omega
 · exact(((h.bel.trans ((Br _ _).mono h.bel.size)).alloc h.bel.size _).grown hgg (by have:=h.bel.size;simp;omega) (fun k hk=>by have:=(own_lt hOq hk).1;omega)).setCell (by simpa using hgN) _
end
theorem TdI.start{F:PFunc}{w0 wN w1:World}{ps:List XBlk}{gO B2:Nat}{v0 v1 vall:Value}(hB2:wN.heap.size≤B2)(hV:RRow w0 wN.heap.size 78 2 CVar v0 F.vars)(hI:w0.ownsRow wN.heap.size 3 1 v1 F.params.length (F.params.map (Value.int .i64)))(h:RRow w1 B2 62 7 (CBS w1 B2) vall ps)(hb:Below w1.heap.size w1 w0)(ok:PsOk w0 wN.heap.size gO v0 v1 vall ps)
 (box:BoxAt w0 gO #[v0,v1,.slice none 0 0] 26) (hbel:Below wN.heap.size wN w0):TdI F w0 wN ps w0 gO v0 v1 vall [] 0 (.slice none 0 0) []:=by
 have hk:KT [3,64,67,62] w1 w0:=KT.of_below hb;have h0:RRow w0 wN.heap.size 62 7 (CBS w0 wN.heap.size) vall ps:=(h.kt hk ZS fun _ _ h=>(h.kt hk ZS ZS ZS).rebase hB2).rebase hB2;have hd:∀{j:Nat} {x:XBlk} {u:Value} {xs:List Int},ps[j]?=some x→u∈x.rows→(∀e∈x.es,Apart u e.2.2)→OwnI w0 wN.heap.size u xs→DInts w0 (D0 w0 ps) u xs:=fun {j x u xs} hx hu hap ho=>
  DInts.of_own ho.1 ho.2 fun b hB hub=>⟨own_nt ho.1 ZS b hB hub,fun y hy e he e2=>by
   obtain⟨k,hk⟩:=List.getElem?_of_mem hy
   by_cases hjk:j=k
   · subst hjk
     rw[hx]at hk;cases hk;exact hap e he b hub e2
   · exact(bef_ne ok.pw hx hk hjk).2.2 u hu _ (rows_from he) b hub e2⟩
 refine⟨rfl,box,hV,hI,h0.map XBlk.old fun _ _ h=>⟨h.cs,h.nm⟩,fun j x _ hx=>?_,fun j x _ hx=>?_,RRow.nil,fun q hq=>by simp at hq,fun q hq=>by simp at hq,fun k hk=>by simp[Value.ownBlock]at hk,hbel,Nr _⟩
 · have hm:=List.mem_of_getElem? hx
   obtain⟨cs,hc⟩:=h0.all_ x hm;rw[← hc.mi];refine RRow.map Prod.fst (hc.hi.mem (C':=fun cs e=>CInst w0 (D0 w0 ps) cs e.1) fun cs e he hce=>⟨_,hce.1,hd hx (List.mem_append_right _ (List.mem_map_of_mem he)) (fun e' he'=>?_) hce.2⟩) fun _ _ h=>h
   exact((List.pairwise_append.1 hc.ap).2.2 _ (rowsP_mem he').2 _ (List.mem_map_of_mem he)).symm
 · have hm:=List.mem_of_getElem? hx
   obtain⟨cs,hc⟩:=h0.all_ x hm;exact hc.hp.mem fun cs e he hce=>⟨hce.1,hd hx (List.mem_append_left _ (rowsP_mem he).1) (fun e' he'=>rowsP_args (List.pairwise_append.1 hc.ap).1 he he') hce.2.1,hce.2.2⟩
section
variable {w:World} {base:Nat} {v:Value} {D:Nat→Prop}
theorem phisD_of{xs:List PPhi}(h:RRow w base 64 3 (CPhi w D) v xs)(hn:xs.length≤1048576):SPhis w w.heap.size v xs:=
 DRow.rd (h.done (D:=fun _=>True) hn (fun _ _ _=>trivial)) (fun _ h _=>h) fun b o cs x _ _ hc e=>by
  obtain⟨v1,v2,rfl,h1,h2⟩:=e;exact⟨hc 0 _ rfl,⟨v1,hc 1 _ rfl,h1.rd fun _ h _=>h⟩,v2,hc 2 _ rfl,h2.rd fun _ h _=>h⟩
theorem instsD_of{xs:List PInst}(h:RRow w base 67 4 (CInst w D) v xs)(hn:xs.length≤1048576):SInsts w w.heap.size v xs:=
 DRow.rd (h.done (D:=fun _=>True) hn (fun _ _ _=>trivial)) (fun _ h _=>h) fun b o cs x _ _ hc e=>by
  obtain⟨v1,rfl,h1⟩:=e;exact⟨hc 0 _ rfl,hc 1 _ rfl,⟨v1,hc 2 _ rfl,h1.rd fun _ h _=>h⟩,hc 3 _ rfl⟩
theorem fnD_of{base2:Nat}{vv vp vb:Value}{F:PFunc}{ps:List (PBlock×Value×Value)}(hV:RRow w base2 78 2 CVar vv F.vars)(hP:w.ownsRow base2 3 1 vp F.params.length (F.params.map (Value.int .i64)))
 (hR:RRow w base 62 7 (CBD w D base) vb ps) (he:ps.map Prod.fst=F.blocks) (hB:Bnd F):FnV w w.heap.size (.agg #[vv,vp,vb]) F:=by
 refine⟨vv,vp,vb,rfl,DVars.rd (D:=fun _=>True) (hV.done (by have:=hB.vars;omega) (fun _ _ _=>trivial)) (fun _ h _=>h),DInts.rd (D:=fun _=>True) (DInts.of_own hP (by have:=hB.params;omega) (fun _ _ _=>trivial)) (fun _ h _=>h),?_⟩;have hn:ps.length≤1048576:=by have:=hB.blocks;rw[← he,List.length_map]at this;omega
 obtain⟨A,c,rfl,hl,hc,hr⟩:=hR.done (D:=fun _=>True) hn (fun _ _ _=>trivial);rw[← he];refine⟨A,c,by rw[List.length_map],by rw[List.length_map];exact hl,by rw[List.length_map];exact hc,fun i x hx=>?_⟩;rw[List.getElem?_map]at hx;obtain⟨p,hx2,rfl⟩:=Option.map_eq_some_iff.1 hx;obtain⟨b,off,cs,ha,-,hb,-,hcells,⟨rfl,hz⟩,h1,h2⟩:=hr i p hx2;have hm:p.1∈F.blocks:=by rw[← he];exact List.mem_map_of_mem (List.mem_of_getElem? hx2)
 have:=hB.parts _ hm;exact⟨b,off,ha,hb,hz,hcells 0 _ rfl,⟨_,hcells 1 _ rfl,phisD_of h1 ZO⟩,⟨_,hcells 2 _ rfl,instsD_of h2 ZO⟩,hcells 3 _ rfl,hcells 4 _ rfl,hcells 5 _ rfl,hcells 6 _ rfl⟩
end
def N5:List TypeId:=[3,64,67,62,78]
def FnT(w:World)(v:Value)(F:PFunc):Prop:=∃v0 v1 v2,v=.agg #[v0,v1,v2]∧DVars w (NT N5 w) v0 F.vars∧DInts w (NT N5 w) v1 F.params∧DBlks w (NT N5 w) v2 F.blocks
section
variable {w w':World} {v:Value} {F:PFunc}
end
section
variable {W w:World} {D:Nat→Prop}
end
def CPhM(W w:World)(cs:List Value)(x:PPhi):Prop:=∃v1 v2,cs=[.int .i64 x.dst,v1,v2]∧DInts W (NT N5 W) v1 x.args∧DInts w (NT [3] w) v2 x.froms
def CInM(W:World)(cs:List Value)(x:PInst):Prop:=CInst W (NT N5 W) cs x
def CBM(W w:World)(base:Nat)(cs:List Value)(x:PBlock×Value×Value):Prop:=
 cs=[.string x.1.name,x.2.1,x.2.2,.int .i64 x.1.term.kind,.int .i64 x.1.term.var,.int .i64 x.1.term.t0,.int .i64 x.1.term.t1]∧x.1.name.size≤maxLen∧
  RRow w base 64 3 (CPhM W w) x.2.1 x.1.phis∧RRow w base 67 4 (CInM W) x.2.2 x.1.insts
section
variable {W w w':World} {base:Nat} {ts:List TypeId} {cs:List Value} {v:Value}
end
def putK(F:PFunc)(a b n:Nat):List PBlock:=((List.range n).filter fun i=>decide (i≠b)).map (putB F a b)
section
variable {F:PFunc} {a b n:Nat}
def tmK(f:Int→Int)(t:PTerm)(k:Nat):PTerm:={ t with t0:=if 0<k∧(t.kind=0∨t.kind=1) then f t.t0 else t.t0,t1:=if 1<k∧t.kind=1 then f t.t1 else t.t1 }
theorem tmK_zero{f:Int→Int}{t:PTerm}:tmK f t 0=t:=by simp[tmK]
theorem tmK_two{f:Int→Int}{t:PTerm}:tmK f t 2=mterm f t:=by
 unfold tmK mterm
 by_cases h0:t.kind=0
 · simp[h0]
 · by_cases h1:t.kind=1
   · simp[h1]
   · simp[h0,h1]
end
theorem ordR_le{F:PFunc}(hT:typedP F=true)(x:Nat):ordR F x≤F.blocks.length:=by
 have hp:=post_fin hT;have hl:(postO F).length≤F.blocks.length:=nodup_len _ _ hp.nod hp.lt;unfold ordR
 by_cases hx:x∈(postO F).reverse
 · obtain⟨i,hi,rfl⟩:=List.mem_iff_getElem.1 hx
   rw[pl_idx ((nodup_rev hp.nod)) (fun b hb=>hp.lt b (List.mem_reverse.1 hb)) hi];rw[List.length_reverse]at hi;omega
 · rw[pl_out hx]
   omega
structure ResT (H:PFunc) (L:List Int) (i:Nat) (B:List PBlock):Prop where
 len:B.length=cntH H i
 at_:∀j,j<i→isHd H j=true→∃M T,Ch H j M T∧B[cntH H j]?=some (tidyBlk H (numT H L) j M T)
section
variable {H:PFunc} {L:List Int} {i j k:Nat} {B:List PBlock}
theorem ResT.zero:ResT H L 0 []:=⟨rfl,fun j h=>ZO⟩
theorem ResT.skip(h:ResT H L i B)(hh:isHd H i=false):ResT H L (i+1) B:=by
 refine⟨by rw[h.len,cntH_succ,hh];rfl,fun j hj hd=>h.at_ j ?_ hd⟩;have:j≠i:=fun e=>by rw[e,hh]at hd;cases hd
 omega
theorem ResT.snoc(h:ResT H L i B)(hh:isHd H i=true){M:List PInst}{T:PTerm}(hc:Ch H i M T):ResT H L (i+1) (B++[tidyBlk H (numT H L) i M T]):=by
 refine⟨by rw[List.length_append,h.len,cntH_succ,hh];rfl,fun j hj hd=>?_⟩
 by_cases e:j=i
 · subst e
   refine⟨M,T,hc,?_⟩;rw[← h.len,List.getElem?_append_right (Nr _),Nat.sub_self];rfl
 · obtain⟨M',T',h1,h2⟩:=h.at_ j ZO hd
   refine⟨M',T',h1,?_⟩;have hl:=(List.getElem?_eq_some_iff.1 h2).1;rw[List.getElem?_append_left hl];exact h2
theorem ResT.fin(h:ResT H L H.blocks.length B)(hs:Hs H L H.blocks.length):IsT H ⟨H.vars,H.params,B⟩:=by
 refine⟨numT H L,hs.tidyV,rfl,rfl,by rw[← cntH_all];exact h.len,fun k i hk=>?_⟩;obtain⟨h1,h2⟩:=hds_lt hk;obtain⟨M,T,h3,h4⟩:=h.at_ i h1 h2;rw[hds_at hk]at h4;exact⟨M,T,h3,h4⟩
end
section
variable {F:PFunc} {w0 wN wi wr w':World} {ps:List XBlk} {gO i:Nat} {v0 v1 vall vq v:Value} {qs:List (PBlock×Value×Value)} {B:List PBlock} {p:XBlk}
theorem TdI.below(h:TdI F w0 wN ps wr gO v0 v1 vall B i vq qs)(hb:Below wr.heap.size wr w'):TdI F w0 wN ps w' gO v0 v1 vall B i vq qs:=by
 have hk:KT [3,64,67,62,78] wr w':=KT.of_below hb;have tr:∀D:Nat→Prop,Tr D D wr w':=fun D=>⟨hb.size,fun b hb2 hl=>⟨hb.block b hl,hb2⟩⟩
 exact⟨h.map,h.box.below hb h.box.lt,h.hV.move hb fun _ _ h=>h,own_below h.hI hb,h.hp.move hb fun _ _ h=>h,fun j x hj hx=>(h.el j x hj hx).move hb fun _ _ h=>h.turn (tr _),fun j x hj hx=>(h.ep j x hj hx).move hb fun _ _ h=>h.kt hk ZS (tr _),
  h.hq.move hb fun _ _ h=>⟨h.1,h.2.1.move hb fun _ _ h=>h.turn (tr _),h.2.2.move hb fun _ _ h=>h.turn (tr _)⟩,h.fvi,h.fvp,h.nq,h.bel.trans (hb.mono h.bel.size),Nat.le_trans h.sz hb.size⟩
theorem D0.kx{base b:Nat}(ok:PsOk w0 base gO v0 v1 vall ps)(hp:p∈ps)(h:D0 w0 ps b):Kx p b:=⟨fun e=>absurd (NT.two h.1 (ok.ti p hp b e).1) ZD,h.2 p hp⟩
theorem d0_tr{base:Nat}(ok:PsOk w0 base gO v0 v1 vall ps)(hp:p∈ps)(hw:w0.heap.size≤wi.heap.size)(h1:Kp (Kx p) wi wr)(h2:Kp (Kx p) wi w')(hs:wr.heap.size≤w'.heap.size):Tr (D0 w0 ps) (D0 w0 ps) wr w':=
 ⟨hs,fun b hb _=>⟨(h2.blk b (hb.kx ok hp) (Nt hb.1.lt hw)).trans (h1.blk b (hb.kx ok hp) (Nt hb.1.lt hw)).symm,hb⟩⟩
def Ky(p:XBlk)(b:Nat):Prop:=p.vi.ownBlock≠some b
theorem Kp.kx(h:Kp (Ky p) wr w'):Kp (Kx p) wr w':=h.mono fun _ _ h=>h.1
theorem kx_below{K:Nat→Prop}(h:Kp K wi wr)(hb:Below wr.heap.size wr w'):Kp K wi w':=h.trans (Kp.below hb fun _ h _=>h)
theorem ky_grown(h:Kp (Ky p) wi wr)(hg:wr.grownBy w' v.ownBlock)(hown:∀k,v.ownBlock=some k→p.vi.ownBlock=some k∨wi.heap.size≤k):Kp (Ky p) wi w':=by
 have h1:Kp (fun b=>Ky p b∧b<wi.heap.size) wi w':=(h.mono fun _ _ h=>h.1).grown hg fun k hk hkx=>by
  rcases hown k hk with e|e
  · exact hkx.1 e
  · have:=hkx.2
    omega
 exact h1.mono fun k hk hkx=>⟨hkx,hk⟩
theorem kx_set{K:Nat→Prop}{g j:Nat}{u:Value}(h:Kp K wi wr)(hg:wi.heap.size≤g):Kp K wi (wr.setCell ⟨g,j,none⟩ u):=by
 have h1:Kp (fun b=>b<wi.heap.size∧K b) wi (wr.setCell ⟨g,j,none⟩ u):=(h.mono fun _ _ h=>h.2).setCell (p:=⟨g,j,none⟩) (fun hb=>by have:=hb.1;change g<_ at this;omega) u;exact h1.mono fun k hk hkx=>⟨hk,hkx⟩
end
theorem irow_set{w:World}{base g j:Nat}{cs:Array Value}{t:TypeId}{D:Nat→Prop}{v u:Value}{xs:List PInst}(h:RRow w base 67 4 (CInst w D) v xs)(hb:BoxAt w g cs t)(ht:67≠t)(hD:∀b,D b→b≠g):RRow (w.setCell ⟨g,j,none⟩ u) base 67 4 (CInst (w.setCell ⟨g,j,none⟩ u) D) v xs:=by
 obtain⟨cells,ho⟩:=h.own;exact h.turn (fun k hk=>heap_set (fun e=>own_box_ne ho hb ht (by rw[hk,e]))) fun _ _ h=>h.turn ⟨ZS,fun b hb2 _=>⟨heap_set (hD b hb2),hb2⟩⟩
theorem sumB_mem:∀{bs:List PBlock} {x:PBlock},x∈bs→x.insts.length≤sumB bs
 |[],x,h=>by simp at h
 |y::bs,x,h=>by
  rw[sumB];rcases List.mem_cons.1 h with rfl|h
  · exact ZO
  · have:=sumB_mem h
    omega
theorem typed_ins{F:PFunc}(hT:typedP F=true)(i:Nat):(F.blk i).insts.length≤1024:=by
 by_cases hi:i<F.blocks.length
 · have h1:=typed_shaped hT
   unfold shapedP at h1;rw[Bool.and_eq_true,decide_eq_true_eq]at h1;exact Nat.le_trans (sumB_mem (mem_of_blk hi)) h1.2
 · unfold PFunc.blk
   rw[List.getD_eq_getElem?_getD,List.getElem?_eq_none ZO];exact Nz _
theorem Ch.len{F:PFunc}{r:Nat→Nat}(hr:RkP F r){R M:Nat}(hR:∀i,r i≤R)(hM:∀i,(F.blk i).insts.length≤M){i:Nat}{L:List PInst}{T:PTerm}(h:Ch F i L T):L.length≤(R+1-r i)*M:=by
 induction h with
 |last h=>
  rename_i i;have h1:=hM i;have h2:=hR i;have h3:=Nat.mul_le_mul_right M (show 1≤R+1-r i from ZO);omega
 |more h hc ih=>
  rename_i i b L T;have h1:=hM i;have h2:=hR b;have h3:=hr _ _ h;have h4:=Nat.mul_le_mul_right M (show R+1-r b+1≤R+1-r i from ZO);rw[Nat.add_mul]at h4;rw[List.length_append];omega
theorem Ch.mem{F:PFunc}{i:Nat}{L:List PInst}{T:PTerm}(h:Ch F i L T):∀x∈L,∃j,x∈(F.blk j).insts:=by
 induction h with
 |last h=>exact fun x hx=>⟨_,hx⟩
 |more h hc ih=>
  intro x hx;rcases List.mem_append.1 hx with hx|hx
  · exact⟨_,hx⟩
  · exact ih x hx
theorem blk_mem{F:PFunc}{j:Nat}{x:PInst}(h:x∈(F.blk j).insts):F.blk j∈F.blocks:=by
 by_cases hi:j<F.blocks.length
 · exact mem_of_blk hi
 · unfold PFunc.blk at h
   rw[List.getD_eq_getElem?_getD,List.getElem?_eq_none ZO]at h;cases h
theorem isT_bnd{F G:PFunc}(hB:Bnd F)(hT:typedP F=true)(hr:RkP F (ordR F))(h:IsT F G):Bnd G:=by
 obtain⟨v,-,h1,h2,h3,h4⟩:=h;obtain⟨n1,n2⟩:=shaped_count (typed_shaped hT);have hlen:(hds F).length≤F.blocks.length:=by rw[← cntH_all];exact cntH_le
 have hb:∀b∈G.blocks,∃i L T,i<F.blocks.length∧Ch F i L T∧b=tidyBlk F v i L T:=fun b hb=>by
  obtain⟨k,hk⟩:=List.getElem?_of_mem hb;have hkl:=(List.getElem?_eq_some_iff.1 hk).1;have hki:(hds F)[k]?=some ((hds F)[k]'(ZO)):=List.getElem?_eq_getElem _;obtain⟨L,T,h5,h6⟩:=h4 k _ hki;rw[hk]at h6;exact⟨_,L,T,(hds_lt hki).1,h5,Option.some.inj h6⟩
 refine⟨by rw[h1];exact hB.vars,by rw[h2];exact hB.params,by have:=hB.blocks;omega,fun b hbm=>?_,fun b hbm p hp=>?_,fun b hbm x hx=>?_⟩
 · obtain⟨i,L,T,hi,hc,rfl⟩:=hb b hbm
   have h5:=hc.len hr (ordR_le hT) (typed_ins hT);have h6:=Nat.mul_le_mul_right 1024 (show F.blocks.length+1-ordR F i≤65 from ZO);refine⟨by simpa[tidyBlk]using(hB.parts _ (mem_of_blk hi)).1,?_⟩;show L.length≤_;omega
 · obtain⟨i,L,T,hi,hc,rfl⟩:=hb b hbm
   obtain⟨q,hq,rfl⟩:=List.mem_map.1 hp;have:=hB.pairs _ (mem_of_blk hi) q hq;exact⟨this.1,by simpa[mphi]using this.2⟩
 · obtain⟨i,L,T,hi,hc,rfl⟩:=hb b hbm
   obtain⟨j,hj⟩:=hc.mem x hx;exact hB.args _ (blk_mem hj) x hj
theorem nx_at{F:PFunc}{a:Nat}(h:a<F.blocks.length):ith (nxL F F.blocks.length) a=nxt F a:=by
 unfold nxL;rw[ith_rmap h,if_pos h]
theorem one_instD{w:World}{D:Nat→Prop}{cs:List Value}{x:PInst}(h:CInst w D cs x):∀y∈cs,y.oneCell'=true:=by
 obtain⟨v1,rfl,A,c,rfl,-⟩:=h;intro y hy;simp at hy;rcases hy with rfl|rfl|rfl|rfl<;>rfl
theorem TdI.blk{F:PFunc}{w0 wN wr:World}{ps:List XBlk}{gO i gb cb:Nat}{v0 v1 vq:Value}{qs:List (PBlock×Value×Value)}{B:List PBlock}(h:TdI F w0 wN ps wr gO v0 v1 (.slice (some ⟨gb,0,none⟩) ps.length cb) B i vq qs){b:Nat}{x:XBlk}(hx:ps[b]?=some x) :
 gb<wr.heap.size∧wr.cell? ⟨gb,b*7+1,none⟩=some x.vp∧wr.cell? ⟨gb,b*7+2,none⟩=some x.vi∧wr.cell? ⟨gb,b*7+3,none⟩=some (.int .i64 x.b.term.kind)∧wr.cell? ⟨gb,b*7+4,none⟩=some (.int .i64 x.b.term.var)∧wr.cell? ⟨gb,b*7+5,none⟩=some (.int .i64 x.b.term.t0)∧wr.cell? ⟨gb,b*7+6,none⟩=some (.int .i64 x.b.term.t1):=by
 have hb:b<ps.length:=(List.getElem?_eq_some_iff.1 hx).1;have hbx:ps[b]=x:=(List.getElem?_eq_some_iff.1 hx).2;obtain⟨gb',cap',cs',hvs',-,-,hl,-,-,hc,hcb'⟩:=h.hp.cells (i:=b) (by rw[List.length_map];exact hb);simp only[Value.slice.injEq,Option.some.injEq,Addr.mk.injEq,and_true]at hvs';obtain⟨rfl,-,-⟩:=hvs';rw[List.getElem_map,hbx]at hcb';obtain⟨rfl,-⟩:=hcb';exact⟨hl,hc 1 _ rfl,hc 2 _ rfl,hc 3 _ rfl,hc 4 _ rfl,hc 5 _ rfl,hc 6 _ rfl⟩
theorem nxt_cases{F:PFunc}{r:Nat→Nat}(hT:typedP F=true)(hr:RkP F r){b:Nat}(hb:b<F.blocks.length):nxt F b=-1∨∃c:Nat,nxt F b=c∧r b<r c:=by
 cases h:foT F b
 · exact .inl (by unfold nxt;rw[h];rfl)
 · obtain⟨c,hc,-⟩:=typed_t0 hT hb
   refine .inr ⟨c,by unfold nxt;rw[h,if_pos rfl,hc],hr _ _ ?_⟩;unfold foT at h;rw[hc,Int.toNat_natCast]at h;exact h
theorem snd_mem{es es':List (PPhi×Value×Value)}(h:es'.map Prod.snd=es.map Prod.snd){e:PPhi×Value×Value}(he:e∈es'):∃e0∈es,e0.2=e.2:=by
 have h1:e.2∈es.map Prod.snd:=by rw[← h];exact List.mem_map_of_mem he
 obtain⟨e0,h2,h3⟩:=List.mem_map.1 h1;exact⟨e0,h2,h3⟩
theorem phis_ky{F:PFunc}{w0 wN wi wr:World}{ps:List XBlk}{gO i:Nat}{v0 v1 vall vq:Value}{qs:List (PBlock×Value×Value)}{B:List PBlock}{p:XBlk}(h:TdI F w0 wN ps wi gO v0 v1 vall B i vq qs)(ok:PsOk w0 wN.heap.size gO v0 v1 vall ps)(hpi:ps[i]?=some p)(hk:Kp (Ky p) wi wr) :
 RRow wr wN.heap.size 64 3 (CPhT wr (D0 w0 ps) wN.heap.size) p.vp p.es:=by
 have hpm:=List.mem_of_getElem? hpi;have hr:=h.ep i p (Nr _) hpi;have hin:∀b,p.vi.ownBlock=some b→NT [67] wi b:=fun b hb=>by
  obtain⟨cells,ho⟩:=(h.el i p (.inr (Nr _)) hpi).own;exact own_nt ho ZS b (own_lt ho hb).1 hb
 refine CPhT.row_turn hr (fun b hb=>?_) (d0_tr ok hpm h.sz Kp.refl hk.kx hk.size) fun e he b hb=>?_
 · obtain⟨cells,ho⟩:=hr.own
   have h1:=own_nt (ts:=[64]) ho ZS b (own_lt ho hb).1 hb;exact hk.blk b (fun e=>absurd (NT.two h1 (hin b e)) ZD) h1.lt
 · obtain⟨cs,-,-,ho⟩:=hr.all_ e he
   have h1:=own_nt (ts:=[3]) ho.1 ZS b (own_lt ho.1 hb).1 hb;exact hk.blk b (fun e=>absurd (NT.two h1 (hin b e)) ZD) h1.lt
theorem from_step{w:World}{base k m n cap gf:Nat}{f:Int→Int}{D:Nat→Prop}{v:Value}{es:List (PPhi×Value×Value)}{e:PPhi×Value×Value}(h:RRow w base 64 3 (CPhT w D base) v ((mixL (tE f) k es).set k (pE f m e)))(hap:(rowsP es).Pairwise Apart)(hD:∀b,D b→∀e∈es,e.2.2.ownBlock≠some b)
 (hk:es[k]?=some e) (hv:e.2.2=.slice (some ⟨gf,0,none⟩) n cap) (hm:m<e.1.froms.length) {x:Int} (hx:x=f e.1.froms[m]) :
 RRow (w.setCell ⟨gf,m,none⟩ (.int .i64 x)) base 64 3 (CPhT (w.setCell ⟨gf,m,none⟩ (.int .i64 x)) D base) v ((mixL (tE f) k es).set k (pE f (m+1) e)):=by
 have hkl:k<es.length:=(List.getElem?_eq_some_iff.1 hk).1;have hek:es[k]=e:=(List.getElem?_eq_some_iff.1 hk).2;have hmk:(mixL (tE f) k es)[k]?=some e:=by rw[mixL_at hkl,hek]
 have hs:((mixL (tE f) k es).set k (pE f m e)).map Prod.snd=es.map Prod.snd:=(set_snd hmk _).trans mix_snd
 have h1:=from_put (k:=k) (m:=m) (x:=x) (e:=pE f m e) h (by rw[rowsP_snd hs];exact hap) (fun b hb e' he'=>by
  obtain⟨e0,h2,h3⟩:=snd_mem hs he';rw[← h3]
  exact hD b hb e0 h2) (by rw[List.getElem?_set_self (by rw[mixL_len];exact hkl)]) hv
 rw[List.set_set]at h1;have he:({ (pE f m e).1 with froms:=(pE f m e).1.froms.set m x },(pE f m e).2)=pE f (m+1) e:=by
  unfold pE;simp only;rw[hx,mixL_set hm]
 rw[he]at h1;exact h1
theorem prow_below{w w':World}{base:Nat}{D:Nat→Prop}{v:Value}{es:List (PPhi×Value×Value)}(h:RRow w base 64 3 (CPhT w D base) v es)(hb:Below w.heap.size w w'):RRow w' base 64 3 (CPhT w' D base) v es:=
 h.move hb fun _ _ h=>h.kt (KT.of_below (ts:=[3]) hb) ZS ⟨hb.size,fun b hb2 hl=>⟨hb.block b hl,hb2⟩⟩
theorem irow_below{w w':World}{base:Nat}{D:Nat→Prop}{v:Value}{xs:List PInst}(h:RRow w base 67 4 (CInst w D) v xs)(hb:Below w.heap.size w w'):RRow w' base 67 4 (CInst w' D) v xs:=
 h.move hb fun _ _ h=>h.turn ⟨hb.size,fun b hb2 hl=>⟨hb.block b hl,hb2⟩⟩
theorem irow_from{w:World}{base g j:Nat}{D:Nat→Prop}{v u:Value}{xs:List PInst}(h:RRow w base 67 4 (CInst w D) v xs)(hg:NT [3] w g)(hD:¬D g):RRow (w.setCell ⟨g,j,none⟩ u) base 67 4 (CInst (w.setCell ⟨g,j,none⟩ u) D) v xs:=by
 obtain⟨cells,ho⟩:=h.own;exact h.turn (fun k hk=>heap_set (fun e=>own_ne_nt ho ZD hg (by rw[hk,e]))) fun _ _ h=>h.turn ⟨ZS,fun b hb2 _=>⟨heap_set (fun e=>hD (by have e2:b=g:=e;rw[← e2];exact hb2)),hb2⟩⟩
theorem kx_other{K:Nat→Prop}{wi wr w':World}{g:Nat}(h:Kp K wi wr)(h2:Kp (fun b=>b≠g) wr w')(hg:wi.heap.size≤g):Kp K wi w':=by
 have h1:Kp (fun b=>b<wi.heap.size∧K b) wi w':=(h.mono fun _ _ h=>h.2).trans (h2.mono fun b _ hb e=>by have:=hb.1;omega);exact h1.mono fun k hk hkx=>⟨hk,hkx⟩
theorem phis_tE{f:Int→Int}{es:List (PPhi×Value×Value)}:(es.map (tE f)).map Prod.fst=(es.map Prod.fst).map (mphi f):=by
 rw[List.map_map,List.map_map];rfl
theorem from_dn{w0:World}{base gO i:Nat}{v0 v1 vall:Value}{ps:List XBlk}{p:XBlk}(ok:PsOk w0 base gO v0 v1 vall ps)(hpi:ps[i]?=some p){e:PPhi×Value×Value}(he:e∈p.es){b:Nat}(hb:e.2.2.ownBlock=some b):Dn w0 ps (i+1) b:=
 ⟨(ok.tf p (List.mem_of_getElem? hpi) _ (rows_from he) b hb).1,fun _ _ hj hx e' he' e2=>(bef_ne ok.pw hpi hx ZO).2.2 _ (rows_from he) _ (rows_from he') b hb e2⟩
theorem vi_apart{F:PFunc}{w0:World}{base gO i n:Nat}{v0 v1 vall v:Value}{ps:List XBlk}{p:XBlk}(ok:PsOk w0 base gO v0 v1 vall ps)(hpi:ps[i]?=some p)(hh:isHd F i=true)(hn:w0.heap.size≤n)(hown:∀k,v.ownBlock=some k→p.vi.ownBlock=some k∨n<k){j:Nat}{x:XBlk}(hj:isHd F j=false∨i+1≤j)(hx:ps[j]?=some x):Apart v x.vi:=fun k h1 h2=>by
 have hne:i≠j:=by
  rintro rfl;rcases hj with hj|hj
  · rw[hh]at hj
    cases hj
  · exact ZO
 rcases hown k h1 with e|e
 · exact(bef_ne ok.pw hpi hx hne).2.1 k e h2
 · have:=(ok.ti x (List.mem_of_getElem? hx) k h2).2
   omega
end Go.Proofs.YthhjlbflpjhahaaGreatDoor
