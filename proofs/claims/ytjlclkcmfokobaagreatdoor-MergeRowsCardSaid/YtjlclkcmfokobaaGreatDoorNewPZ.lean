/- A region that draws its order, by a word that each of its operations keeps, whichever were done before. -/
import Derived.OrdersHeld
import Derived.Orders
import Derived.WalkKit
import Derived.Deep.RegionHeld
import Derived.Test.YtjlclkcmfokobaaGreatDoorTreePZ
import Derived.Test.YtjlclkcmfokobaaGreatDoorLeafQZ
import Derived.WalkLawsBesides
namespace Go.Proofs.YtjlclkcmfokobaaGreatDoor
open Go
section
variable {P:Program} {Q:Exit→Act→World→Prop}
def upd(f:Nat→Bool)(i:Nat):Nat→Bool:=fun j=>if j=i then true else f j
theorem YfL{f:Nat→Bool}{i:Nat}:upd f i i=true:=by simp[upd]
theorem upd_ne{f:Nat→Bool}{i j:Nat}(h:j≠i):upd f i j=f j:=by simp[upd,h]
def YdE(l:List Oper):Bool:=(List.range l.length).all fun i=>(l.getD i default).after.all fun e=>decide (e.on<i)
theorem YlV{listed:Array Bool}{i:Nat}(h:i<listed.size):(listed.setIfInBounds i true).getD i false=true:=by
 simp[Array.getD,h]
theorem YlW{l:List Oper}(I:(Nat→Bool)→Act→World→Prop)
 (step:∀f i o a w,l[i]?=some o→f i=false→(∀e∈o.after,Region.binds .any e=true→f e.on=true)→I f a w→
   if Region.wanted o (yielded l.toArray a.tmps)=true then o.wp P a w (fun a' w'=>I (upd f i) a' w') Q∨(o.asks P a w∧LetsOut Q) else I (upd f i) (a.put o.dst undef) w)
 (hB:YdE l=true) (fin:∀f a w,(∀i,i<l.length→f i=true)→I f a w→Q .normal a w) :
 ∀(n:Nat) (listed:Array Bool) (a:Act) (w:World),listed.size=l.length→listed.count false≤n→I (fun j=>listed.getD j false) a w→wpAny P .any l.toArray Q n listed a w:=by
 have hdone:∀listed:Array Bool,listed.size=l.length→Region.ready .any l.toArray listed=[]→∀i,i<l.length→listed.getD i false=true:=by
  intro listed hs hr i
  induction i using Nat.strongRecOn with
  |ind i ih=>
   intro hi;cases hb:listed.getD i false
   · exfalso
     have:i∈Region.ready .any l.toArray listed:=by
      rw[mem_ready];have hi':i<listed.size:=by omega
      refine⟨by simpa[Array.getD,hi']using hb,l[i],by simp[hi],fun e he _=>?_⟩;have h1:=List.all_eq_true.1 hB i (List.mem_range.2 hi);rw[show l.getD i default=l[i] by simp[hi],Array.all_eq_true']at h1;have h2:=h1 e he;simp only[decide_eq_true_eq]at h2;exact ih e.on h2 ZO
     rw[hr]at this;cases this
   · rfl
 intro n
 induction n with
 |zero=>
  intro listed a w hs hc hI;have hall:∀i,i<l.length→listed.getD i false=true:=by
   intro i hi;cases hb:listed.getD i false
   · exfalso
     have hi':i<listed.size:=by omega
     have h2:listed[i]=false:=by simpa[Array.getD,hi']using hb
     have:0<listed.count false:=by
      rw[Array.count_pos_iff];rw[← h2];exact Array.getElem_mem hi'
     omega
   · rfl
  refine⟨?_,fin _ a w hall hI⟩;rw[List.eq_nil_iff_forall_not_mem];intro j hj;obtain⟨h1,o,ho,-⟩:=mem_ready.1 hj;have hj':j<l.length:=by
   have:=(List.getElem?_eq_some_iff.1 (by simpa using ho)).1;exact this
  have h2:=hall j hj';have hj2:j<listed.size:=by omega
  simp only[Array.getD,hj2,dif_pos]at h1 h2;rw[h1]at h2;cases h2
 |succ n ih=>
  intro listed a w hs hc hI;refine⟨fun hr=>fin _ a w (hdone listed hs hr) hI,fun i hi=>?_⟩;obtain⟨h1,o,ho,hall⟩:=mem_ready.1 hi;have hil:i<l.length:=(List.getElem?_eq_some_iff.1 (by simpa using ho)).1;have hi2:i<listed.size:=by omega
  have hb:listed.getD i false=false:=by
   simp only[Array.getD,hi2,dif_pos]at h1 ⊢;exact h1
  have ho':l[i]?=some o:=by simpa using ho
  have hst:=step _ i o a w ho' hb hall hI;have hcnt:(listed.setIfInBounds i true).count false≤n:=by
   have:(listed.set i true hi2).count false+1=listed.count false:=by
    rw[Array.count_set];have h2:listed[i]=false:=by simpa[Array.getD,hi2]using hb
    have:0<listed.count false:=by
     rw[Array.count_pos_iff,← h2];exact Array.getElem_mem hi2
    simp[h2];omega
   rw[Array.setIfInBounds,dif_pos hi2];omega
  have hnext:∀a' w',I (upd (fun j=>listed.getD j false) i) a' w'→wpAny P .any l.toArray Q n (listed.setIfInBounds i true) a' w':=by
   intro a' w' hI';refine ih _ a' w' (by simp[hs]) hcnt ?_;have:(fun j=>(listed.setIfInBounds i true).getD j false)=upd (fun j=>listed.getD j false) i:=by
    funext j
    by_cases hji:j=i
    · subst hji
      rw[YfL];exact YlV hi2
    · rw[upd_ne hji]
      exact getD_set_ne false (fun e=>hji e.symm)
   rw[this];exact hI'
  unfold wpOp;simp only[ho]
  by_cases hw:Region.wanted o (yielded l.toArray a.tmps)=true
  · rw[if_pos hw]at hst⊢
    exact hst.imp (Oper.wp_mono hnext) id
  · rw[if_neg hw]at hst⊢
    exact hnext _ _ hst
theorem Yhv{id:Nat}{a:Act}{w:World}{l:List Oper}(hm:P.follows .mixedOrders=true)(I:(Nat→Bool)→Act→World→Prop)(hB:YdE l=true)(h0:I (fun _=>false) a w.drew)
 (step:∀f i o a w,l[i]?=some o→f i=false→(∀e∈o.after,Region.binds .any e=true→f e.on=true)→I f a w→
   if Region.wanted o (yielded l.toArray a.tmps)=true then o.wp P a w (fun a' w'=>I (upd f i) a' w') Q∨(o.asks P a w∧LetsOut Q) else I (upd f i) (a.put o.dst undef) w)
 (fin:∀f a w,(∀i,i<l.length→f i=true)→I f a w→Q .normal a w):(Code.region id l.toArray true).wp P Q a w:=by
 refine wp_region_any hm ?_;refine YlW I step hB fin _ _ a _ ZS ZS ?_;have:(fun j=>(Array.replicate l.toArray.size false).getD j false)=fun _=>false:=by
  funext j;simp only[Array.getD];split<;>simp
 rw[this];exact h0
theorem Yhw{id:Nat}{a:Act}{w:World}{l:List Oper}(hm:P.follows .mixedOrders=true)(I:Act→(Nat→Bool)→Act→World→Prop)(hB:(YdE l&&l.all fun o=>o.guard.isNone)=true)(h0:I a (fun _=>false) a w.drew)
 (step:∀f i o a1 w1,l[i]?=some o→f i=false→(∀e∈o.after,Region.binds .any e=true→f e.on=true)→I a f a1 w1→∀K:Act→World→Prop,Shut (∀a' w',I a (upd f i) a' w'→K a' w')→o.wp P a1 w1 K Q)
 (fin:∀f a1 w1,(∀i,i<l.length→f i=true)→I a f a1 w1→Q .normal a1 w1):(Code.region id l.toArray true).wp P Q a w:=by
 rw[Bool.and_eq_true]at hB;refine Yhv hm (I a) hB.1 h0 (fun f i o a1 w1 ho hf hd hI=>?_) fin;have hg:o.guard=none:=by
  have:=List.all_eq_true.1 hB.2 o (List.mem_of_getElem? ho);simpa using this
 have hw:Region.wanted o (yielded l.toArray a1.tmps)=true:=by simp[Region.wanted,hg]
 rw[if_pos hw];exact .inl (step f i o a1 w1 ho hf hd hI _ (fun _ _ h=>h))
end
end Go.Proofs.YtjlclkcmfokobaaGreatDoor
namespace Go.Proofs.YtjlclkcmfokobaaGreatDoor
open Go.RowKit
set_option maxRecDepth 100000
structure NewW (n:Nat) (O:List Nat) (P:Nat→List Nat) (V4 V6:Value) (w5:World) (f:Nat→Bool) (wr:World) (v22 v23 v24 v25 v26 v27 v28 v29 v30 v31 v32 v33 v34 v7:Value):Prop where
 hb:Below w5.heap.size w5 wr
 e0:f 0=true→v22=V4
 e1:f 1=true→v23=V6
 e2:f 2=true→v24=.int .i64 (n:Int)
 e3:f 3=true→∃g,v25=.slice (some ⟨g,0,none⟩) n n∧∃L,Hid (NearOk n O P L)∧wr.ownsRow w5.heap.size 3 1 (.slice (some ⟨g,0,none⟩) n n) n (YaN (L.set 0 none))
 e4:f 4=true→∃b,v26=.slice (some ⟨b,0,none⟩) 1 1∧b<wr.heap.size∧wr.cell? ⟨b,0,none⟩=some (.int .i64 (-1))
 e5:f 5=true→v27=.int .i64 (n:Int)
 e6:f 6=true→∃g,v28=.slice (some ⟨g,0,none⟩) n n∧wr.ownsRow w5.heap.size 3 1 (.slice (some ⟨g,0,none⟩) n n) n (List.replicate n (.int .i64 (-1)))
 e7:f 7=true→v29=.int .i64 (n:Int)
 e8:f 8=true→∃g,v30=.slice (some ⟨g,0,none⟩) n n∧wr.ownsRow w5.heap.size 23 1 (.slice (some ⟨g,0,none⟩) n n) n (List.replicate n (.slice none 0 0))
 e9:f 9=true→v31=.int .i64 (n:Int)
 e10:f 10=true→∃g,v32=.slice (some ⟨g,0,none⟩) n n∧wr.ownsRow w5.heap.size 23 1 (.slice (some ⟨g,0,none⟩) n n) n (List.replicate n (.slice none 0 0))
 d36:f 3=true→f 6=true→∀b,v25.ownBlock=some b→v28.ownBlock≠some b
 d8a:f 8=true→f 10=true→∀b,v30.ownBlock=some b→v32.ownBlock≠some b
 e11:f 11=true→(f 3=true∧f 6=true∧f 8=true∧f 10=true)∧v33=.agg #[v25,v28,v30,v32]
 e12:f 12=true→f 11=true∧∃tb,v34=.pointer (some ⟨tb,0,none⟩)∧tb<wr.heap.size∧w5.heap.size≤tb∧(wr.cell? ⟨tb,0,none⟩=some v25∧wr.cell? ⟨tb,1,none⟩=some v28∧wr.cell? ⟨tb,2,none⟩=some v30∧wr.cell? ⟨tb,3,none⟩=some v32)∧
  ∀b,(v25.ownBlock=some b∨v28.ownBlock=some b∨v30.ownBlock=some b∨v32.ownBlock=some b)→b<tb
 e13:f 13=true→f 12=true∧v7=v34
section
variable {n:Nat} {O:List Nat} {P:Nat→List Nat} {V4 V6:Value} {w5 wr w':World} {f:Nat→Bool} {v22 v23 v24 v25 v26 v27 v28 v29 v30 v31 v32 v33 v34 v7:Value}
theorem NewW.mono(h:NewW n O P V4 V6 w5 f wr v22 v23 v24 v25 v26 v27 v28 v29 v30 v31 v32 v33 v34 v7)(hb:Below wr.heap.size wr w'):NewW n O P V4 V6 w5 f w' v22 v23 v24 v25 v26 v27 v28 v29 v30 v31 v32 v33 v34 v7:=by
 refine⟨h.hb.trans (hb.mono h.hb.size),h.e0,h.e1,h.e2,fun hx=>?_,fun hx=>?_,h.e5,fun hx=>?_,h.e7,fun hx=>?_,h.e9,fun hx=>?_,h.d36,h.d8a,h.e11,fun hx=>?_,h.e13⟩
 · obtain⟨g,h1,L,h2,h3⟩:=h.e3 hx
   exact⟨g,h1,L,h2,Yu h3 hb⟩
 · obtain⟨b,h1,h2,h3⟩:=h.e4 hx
   exact⟨b,h1,Nt h2 hb.size,(hb.cell (p:=⟨b,0,none⟩) h2).trans h3⟩
 · obtain⟨g,h1,h3⟩:=h.e6 hx
   exact⟨g,h1,Yu h3 hb⟩
 · obtain⟨g,h1,h3⟩:=h.e8 hx
   exact⟨g,h1,Yu h3 hb⟩
 · obtain⟨g,h1,h3⟩:=h.e10 hx
   exact⟨g,h1,Yu h3 hb⟩
 · obtain⟨h0,tb,h1,h2,h3,⟨c0,c1,c2,c3⟩,h4⟩:=h.e12 hx
   exact⟨h0,tb,h1,Nt h2 hb.size,h3,⟨(hb.cell (p:=⟨tb,0,none⟩) h2).trans c0,(hb.cell (p:=⟨tb,1,none⟩) h2).trans c1,(hb.cell (p:=⟨tb,2,none⟩) h2).trans c2,(hb.cell (p:=⟨tb,3,none⟩) h2).trans c3⟩,h4⟩
theorem NewW.start:NewW n O P V4 V6 w5 (fun _=>false) w5.drew v22 v23 v24 v25 v26 v27 v28 v29 v30 v31 v32 v33 v34 v7:=
 ⟨(Br _ _).drew,(fun h=>by cases h),(fun h=>by cases h),(fun h=>by cases h),(fun h=>by cases h),(fun h=>by cases h),(fun h=>by cases h),(fun h=>by cases h),(fun h=>by cases h),(fun h=>by cases h),(fun h=>by cases h),(fun h=>by cases h),(fun h=>by cases h),(fun h=>by cases h),(fun h=>by cases h),(fun h=>by cases h),(fun h=>by cases h)⟩
theorem NewW.s0{v':Value}(h:NewW n O P V4 V6 w5 f wr v22 v23 v24 v25 v26 v27 v28 v29 v30 v31 v32 v33 v34 v7)(hb:Below wr.heap.size wr w')(_:f 0=false)(hv:v'=V4):NewW n O P V4 V6 w5 (upd f 0) w' v' v23 v24 v25 v26 v27 v28 v29 v30 v31 v32 v33 v34 v7:=by
 have m:=h.mono hb
 exact⟨m.hb,(fun _=>hv),
  (fun hx=>m.e1 ZU),
  (fun hx=>m.e2 ZU),
  (fun hx=>m.e3 ZU),
  (fun hx=>m.e4 ZU),
  (fun hx=>m.e5 ZU),
  (fun hx=>m.e6 ZU),
  (fun hx=>m.e7 ZU),
  (fun hx=>m.e8 ZU),
  (fun hx=>m.e9 ZU),
  (fun hx=>m.e10 ZU),
  (fun h3 h6=>m.d36 (by rw[upd_ne ZD]at h3;exact h3) (by rw[upd_ne ZD]at h6;exact h6)),
  (fun h3 h6=>m.d8a (by rw[upd_ne ZD]at h3;exact h3) (by rw[upd_ne ZD]at h6;exact h6)),
  (fun hx=>by rw[upd_ne ZD]at hx;have q:=m.e11 hx;exact⟨⟨by rw[upd_ne ZD];exact q.1.1,by rw[upd_ne ZD];exact q.1.2.1,by rw[upd_ne ZD];exact q.1.2.2.1,by rw[upd_ne ZD];exact q.1.2.2.2⟩,q.2⟩),
  (fun hx=>by rw[upd_ne ZD]at hx;have q:=m.e12 hx;exact⟨by rw[upd_ne ZD];exact q.1,q.2⟩),
  (fun hx=>by rw[upd_ne ZD]at hx;have q:=m.e13 hx;exact⟨by rw[upd_ne ZD];exact q.1,q.2⟩)⟩
theorem NewW.s1{v':Value}(h:NewW n O P V4 V6 w5 f wr v22 v23 v24 v25 v26 v27 v28 v29 v30 v31 v32 v33 v34 v7)(hb:Below wr.heap.size wr w')(_:f 1=false)(hv:v'=V6):NewW n O P V4 V6 w5 (upd f 1) w' v22 v' v24 v25 v26 v27 v28 v29 v30 v31 v32 v33 v34 v7:=by
 have m:=h.mono hb
 exact⟨m.hb,(fun hx=>m.e0 ZU),
  (fun _=>hv),
  (fun hx=>m.e2 ZU),
  (fun hx=>m.e3 ZU),
  (fun hx=>m.e4 ZU),
  (fun hx=>m.e5 ZU),
  (fun hx=>m.e6 ZU),
  (fun hx=>m.e7 ZU),
  (fun hx=>m.e8 ZU),
  (fun hx=>m.e9 ZU),
  (fun hx=>m.e10 ZU),
  (fun h3 h6=>m.d36 (by rw[upd_ne ZD]at h3;exact h3) (by rw[upd_ne ZD]at h6;exact h6)),
  (fun h3 h6=>m.d8a (by rw[upd_ne ZD]at h3;exact h3) (by rw[upd_ne ZD]at h6;exact h6)),
  (fun hx=>by rw[upd_ne ZD]at hx;have q:=m.e11 hx;exact⟨⟨by rw[upd_ne ZD];exact q.1.1,by rw[upd_ne ZD];exact q.1.2.1,by rw[upd_ne ZD];exact q.1.2.2.1,by rw[upd_ne ZD];exact q.1.2.2.2⟩,q.2⟩),
  (fun hx=>by rw[upd_ne ZD]at hx;have q:=m.e12 hx;exact⟨by rw[upd_ne ZD];exact q.1,q.2⟩),
  (fun hx=>by rw[upd_ne ZD]at hx;have q:=m.e13 hx;exact⟨by rw[upd_ne ZD];exact q.1,q.2⟩)⟩
theorem NewW.s2{v':Value}(h:NewW n O P V4 V6 w5 f wr v22 v23 v24 v25 v26 v27 v28 v29 v30 v31 v32 v33 v34 v7)(hb:Below wr.heap.size wr w')(_:f 2=false)(hv:v'=.int .i64 (n:Int)):NewW n O P V4 V6 w5 (upd f 2) w' v22 v23 v' v25 v26 v27 v28 v29 v30 v31 v32 v33 v34 v7:=by
 have m:=h.mono hb
 exact⟨m.hb,(fun hx=>m.e0 ZU),
  (fun hx=>m.e1 ZU),
  (fun _=>hv),
  (fun hx=>m.e3 ZU),
  (fun hx=>m.e4 ZU),
  (fun hx=>m.e5 ZU),
  (fun hx=>m.e6 ZU),
  (fun hx=>m.e7 ZU),
  (fun hx=>m.e8 ZU),
  (fun hx=>m.e9 ZU),
  (fun hx=>m.e10 ZU),
  (fun h3 h6=>m.d36 (by rw[upd_ne ZD]at h3;exact h3) (by rw[upd_ne ZD]at h6;exact h6)),
  (fun h3 h6=>m.d8a (by rw[upd_ne ZD]at h3;exact h3) (by rw[upd_ne ZD]at h6;exact h6)),
  (fun hx=>by rw[upd_ne ZD]at hx;have q:=m.e11 hx;exact⟨⟨by rw[upd_ne ZD];exact q.1.1,by rw[upd_ne ZD];exact q.1.2.1,by rw[upd_ne ZD];exact q.1.2.2.1,by rw[upd_ne ZD];exact q.1.2.2.2⟩,q.2⟩),
  (fun hx=>by rw[upd_ne ZD]at hx;have q:=m.e12 hx;exact⟨by rw[upd_ne ZD];exact q.1,q.2⟩),
  (fun hx=>by rw[upd_ne ZD]at hx;have q:=m.e13 hx;exact⟨by rw[upd_ne ZD];exact q.1,q.2⟩)⟩
theorem NewW.s3{v':Value}(h:NewW n O P V4 V6 w5 f wr v22 v23 v24 v25 v26 v27 v28 v29 v30 v31 v32 v33 v34 v7)(hb:Below wr.heap.size wr w')(hf:f 3=false)(hv:∃g,v'=.slice (some ⟨g,0,none⟩) n n∧wr.heap.size≤g∧∃L,Hid (NearOk n O P L)∧w'.ownsRow w5.heap.size 3 1 (.slice (some ⟨g,0,none⟩) n n) n (YaN (L.set 0 none))):NewW n O P V4 V6 w5 (upd f 3) w' v22 v23 v24 v' v26 v27 v28 v29 v30 v31 v32 v33 v34 v7:=by
 have m:=h.mono hb
 exact⟨m.hb,(fun hx=>m.e0 ZU),
  (fun hx=>m.e1 ZU),
  (fun hx=>m.e2 ZU),
  (fun _=>by obtain⟨g,h1,_,h2⟩:=hv;exact⟨g,h1,h2⟩),
  (fun hx=>m.e4 ZU),
  (fun hx=>m.e5 ZU),
  (fun hx=>m.e6 ZU),
  (fun hx=>m.e7 ZU),
  (fun hx=>m.e8 ZU),
  (fun hx=>m.e9 ZU),
  (fun hx=>m.e10 ZU),
  (fun _ h6 b e1 e2=>by rw[upd_ne ZD]at h6;obtain⟨g,h1,h2,_⟩:=hv;obtain⟨g',h3,h4⟩:=h.e6 h6;subst h1 h3;have:=(h4.lt b e2).2;cases e1;dsimp only at this;omega),
  (fun h3 h6=>m.d8a (by rw[upd_ne ZD]at h3;exact h3) (by rw[upd_ne ZD]at h6;exact h6)),
  (fun hx=>by rw[upd_ne ZD]at hx;have:=(m.e11 hx).1.1;rw[hf]at this;cases this),
  (fun hx=>by rw[upd_ne ZD]at hx;have:=(m.e11 (m.e12 hx).1).1.1;rw[hf]at this;cases this),
  (fun hx=>by rw[upd_ne ZD]at hx;have q:=m.e13 hx;exact⟨by rw[upd_ne ZD];exact q.1,q.2⟩)⟩
theorem NewW.s4{v':Value}(h:NewW n O P V4 V6 w5 f wr v22 v23 v24 v25 v26 v27 v28 v29 v30 v31 v32 v33 v34 v7)(hb:Below wr.heap.size wr w')(_:f 4=false)(hv:∃b,v'=.slice (some ⟨b,0,none⟩) 1 1∧b<w'.heap.size∧w'.cell? ⟨b,0,none⟩=some (.int .i64 (-1))):NewW n O P V4 V6 w5 (upd f 4) w' v22 v23 v24 v25 v' v27 v28 v29 v30 v31 v32 v33 v34 v7:=by
 have m:=h.mono hb
 exact⟨m.hb,(fun hx=>m.e0 ZU),
  (fun hx=>m.e1 ZU),
  (fun hx=>m.e2 ZU),
  (fun hx=>m.e3 ZU),
  (fun _=>hv),
  (fun hx=>m.e5 ZU),
  (fun hx=>m.e6 ZU),
  (fun hx=>m.e7 ZU),
  (fun hx=>m.e8 ZU),
  (fun hx=>m.e9 ZU),
  (fun hx=>m.e10 ZU),
  (fun h3 h6=>m.d36 (by rw[upd_ne ZD]at h3;exact h3) (by rw[upd_ne ZD]at h6;exact h6)),
  (fun h3 h6=>m.d8a (by rw[upd_ne ZD]at h3;exact h3) (by rw[upd_ne ZD]at h6;exact h6)),
  (fun hx=>by rw[upd_ne ZD]at hx;have q:=m.e11 hx;exact⟨⟨by rw[upd_ne ZD];exact q.1.1,by rw[upd_ne ZD];exact q.1.2.1,by rw[upd_ne ZD];exact q.1.2.2.1,by rw[upd_ne ZD];exact q.1.2.2.2⟩,q.2⟩),
  (fun hx=>by rw[upd_ne ZD]at hx;have q:=m.e12 hx;exact⟨by rw[upd_ne ZD];exact q.1,q.2⟩),
  (fun hx=>by rw[upd_ne ZD]at hx;have q:=m.e13 hx;exact⟨by rw[upd_ne ZD];exact q.1,q.2⟩)⟩
theorem NewW.s5{v':Value}(h:NewW n O P V4 V6 w5 f wr v22 v23 v24 v25 v26 v27 v28 v29 v30 v31 v32 v33 v34 v7)(hb:Below wr.heap.size wr w')(_:f 5=false)(hv:v'=.int .i64 (n:Int)):NewW n O P V4 V6 w5 (upd f 5) w' v22 v23 v24 v25 v26 v' v28 v29 v30 v31 v32 v33 v34 v7:=by
 have m:=h.mono hb
 exact⟨m.hb,(fun hx=>m.e0 ZU),
  (fun hx=>m.e1 ZU),
  (fun hx=>m.e2 ZU),
  (fun hx=>m.e3 ZU),
  (fun hx=>m.e4 ZU),
  (fun _=>hv),
  (fun hx=>m.e6 ZU),
  (fun hx=>m.e7 ZU),
  (fun hx=>m.e8 ZU),
  (fun hx=>m.e9 ZU),
  (fun hx=>m.e10 ZU),
  (fun h3 h6=>m.d36 (by rw[upd_ne ZD]at h3;exact h3) (by rw[upd_ne ZD]at h6;exact h6)),
  (fun h3 h6=>m.d8a (by rw[upd_ne ZD]at h3;exact h3) (by rw[upd_ne ZD]at h6;exact h6)),
  (fun hx=>by rw[upd_ne ZD]at hx;have q:=m.e11 hx;exact⟨⟨by rw[upd_ne ZD];exact q.1.1,by rw[upd_ne ZD];exact q.1.2.1,by rw[upd_ne ZD];exact q.1.2.2.1,by rw[upd_ne ZD];exact q.1.2.2.2⟩,q.2⟩),
  (fun hx=>by rw[upd_ne ZD]at hx;have q:=m.e12 hx;exact⟨by rw[upd_ne ZD];exact q.1,q.2⟩),
  (fun hx=>by rw[upd_ne ZD]at hx;have q:=m.e13 hx;exact⟨by rw[upd_ne ZD];exact q.1,q.2⟩)⟩
theorem NewW.s6{v':Value}(h:NewW n O P V4 V6 w5 f wr v22 v23 v24 v25 v26 v27 v28 v29 v30 v31 v32 v33 v34 v7)(hb:Below wr.heap.size wr w')(hf:f 6=false)(hv:∃g,v'=.slice (some ⟨g,0,none⟩) n n∧wr.heap.size≤g∧w'.ownsRow w5.heap.size 3 1 (.slice (some ⟨g,0,none⟩) n n) n (List.replicate n (.int .i64 (-1)))):NewW n O P V4 V6 w5 (upd f 6) w' v22 v23 v24 v25 v26 v27 v' v29 v30 v31 v32 v33 v34 v7:=by
 have m:=h.mono hb
 exact⟨m.hb,(fun hx=>m.e0 ZU),
  (fun hx=>m.e1 ZU),
  (fun hx=>m.e2 ZU),
  (fun hx=>m.e3 ZU),
  (fun hx=>m.e4 ZU),
  (fun hx=>m.e5 ZU),
  (fun _=>by obtain⟨g,h1,_,h2⟩:=hv;exact⟨g,h1,h2⟩),
  (fun hx=>m.e7 ZU),
  (fun hx=>m.e8 ZU),
  (fun hx=>m.e9 ZU),
  (fun hx=>m.e10 ZU),
  (fun h3 _ b e1 e2=>by rw[upd_ne ZD]at h3;obtain⟨g,h1,h2,_⟩:=hv;obtain⟨g',h5,L,_,h4⟩:=h.e3 h3;subst h1 h5;have:=(h4.lt b e1).2;cases e2;dsimp only at this;omega),
  (fun h3 h6=>m.d8a (by rw[upd_ne ZD]at h3;exact h3) (by rw[upd_ne ZD]at h6;exact h6)),
  (fun hx=>by rw[upd_ne ZD]at hx;have:=(m.e11 hx).1.2.1;rw[hf]at this;cases this),
  (fun hx=>by rw[upd_ne ZD]at hx;have:=(m.e11 (m.e12 hx).1).1.2.1;rw[hf]at this;cases this),
  (fun hx=>by rw[upd_ne ZD]at hx;have q:=m.e13 hx;exact⟨by rw[upd_ne ZD];exact q.1,q.2⟩)⟩
theorem NewW.s7{v':Value}(h:NewW n O P V4 V6 w5 f wr v22 v23 v24 v25 v26 v27 v28 v29 v30 v31 v32 v33 v34 v7)(hb:Below wr.heap.size wr w')(_:f 7=false)(hv:v'=.int .i64 (n:Int)):NewW n O P V4 V6 w5 (upd f 7) w' v22 v23 v24 v25 v26 v27 v28 v' v30 v31 v32 v33 v34 v7:=by
 have m:=h.mono hb
 exact⟨m.hb,(fun hx=>m.e0 ZU),
  (fun hx=>m.e1 ZU),
  (fun hx=>m.e2 ZU),
  (fun hx=>m.e3 ZU),
  (fun hx=>m.e4 ZU),
  (fun hx=>m.e5 ZU),
  (fun hx=>m.e6 ZU),
  (fun _=>hv),
  (fun hx=>m.e8 ZU),
  (fun hx=>m.e9 ZU),
  (fun hx=>m.e10 ZU),
  (fun h3 h6=>m.d36 (by rw[upd_ne ZD]at h3;exact h3) (by rw[upd_ne ZD]at h6;exact h6)),
  (fun h3 h6=>m.d8a (by rw[upd_ne ZD]at h3;exact h3) (by rw[upd_ne ZD]at h6;exact h6)),
  (fun hx=>by rw[upd_ne ZD]at hx;have q:=m.e11 hx;exact⟨⟨by rw[upd_ne ZD];exact q.1.1,by rw[upd_ne ZD];exact q.1.2.1,by rw[upd_ne ZD];exact q.1.2.2.1,by rw[upd_ne ZD];exact q.1.2.2.2⟩,q.2⟩),
  (fun hx=>by rw[upd_ne ZD]at hx;have q:=m.e12 hx;exact⟨by rw[upd_ne ZD];exact q.1,q.2⟩),
  (fun hx=>by rw[upd_ne ZD]at hx;have q:=m.e13 hx;exact⟨by rw[upd_ne ZD];exact q.1,q.2⟩)⟩
theorem NewW.s8{v':Value}(h:NewW n O P V4 V6 w5 f wr v22 v23 v24 v25 v26 v27 v28 v29 v30 v31 v32 v33 v34 v7)(hb:Below wr.heap.size wr w')(hf:f 8=false)(hv:∃g,v'=.slice (some ⟨g,0,none⟩) n n∧wr.heap.size≤g∧w'.ownsRow w5.heap.size 23 1 (.slice (some ⟨g,0,none⟩) n n) n (List.replicate n (.slice none 0 0))):NewW n O P V4 V6 w5 (upd f 8) w' v22 v23 v24 v25 v26 v27 v28 v29 v' v31 v32 v33 v34 v7:=by
 have m:=h.mono hb
 exact⟨m.hb,(fun hx=>m.e0 ZU),
  (fun hx=>m.e1 ZU),
  (fun hx=>m.e2 ZU),
  (fun hx=>m.e3 ZU),
  (fun hx=>m.e4 ZU),
  (fun hx=>m.e5 ZU),
  (fun hx=>m.e6 ZU),
  (fun hx=>m.e7 ZU),
  (fun _=>by obtain⟨g,h1,_,h2⟩:=hv;exact⟨g,h1,h2⟩),
  (fun hx=>m.e9 ZU),
  (fun hx=>m.e10 ZU),
  (fun h3 h6=>m.d36 (by rw[upd_ne ZD]at h3;exact h3) (by rw[upd_ne ZD]at h6;exact h6)),
  (fun _ h6 b e1 e2=>by rw[upd_ne ZD]at h6;obtain⟨g,h1,h2,_⟩:=hv;obtain⟨g',h3,h4⟩:=h.e10 h6;subst h1 h3;have:=(h4.lt b e2).2;cases e1;dsimp only at this;omega),
  (fun hx=>by rw[upd_ne ZD]at hx;have:=(m.e11 hx).1.2.2.1;rw[hf]at this;cases this),
  (fun hx=>by rw[upd_ne ZD]at hx;have:=(m.e11 (m.e12 hx).1).1.2.2.1;rw[hf]at this;cases this),
  (fun hx=>by rw[upd_ne ZD]at hx;have q:=m.e13 hx;exact⟨by rw[upd_ne ZD];exact q.1,q.2⟩)⟩
theorem NewW.s9{v':Value}(h:NewW n O P V4 V6 w5 f wr v22 v23 v24 v25 v26 v27 v28 v29 v30 v31 v32 v33 v34 v7)(hb:Below wr.heap.size wr w')(_:f 9=false)(hv:v'=.int .i64 (n:Int)):NewW n O P V4 V6 w5 (upd f 9) w' v22 v23 v24 v25 v26 v27 v28 v29 v30 v' v32 v33 v34 v7:=by
 have m:=h.mono hb
 exact⟨m.hb,(fun hx=>m.e0 ZU),
  (fun hx=>m.e1 ZU),
  (fun hx=>m.e2 ZU),
  (fun hx=>m.e3 ZU),
  (fun hx=>m.e4 ZU),
  (fun hx=>m.e5 ZU),
  (fun hx=>m.e6 ZU),
  (fun hx=>m.e7 ZU),
  (fun hx=>m.e8 ZU),
  (fun _=>hv),
  (fun hx=>m.e10 ZU),
  (fun h3 h6=>m.d36 (by rw[upd_ne ZD]at h3;exact h3) (by rw[upd_ne ZD]at h6;exact h6)),
  (fun h3 h6=>m.d8a (by rw[upd_ne ZD]at h3;exact h3) (by rw[upd_ne ZD]at h6;exact h6)),
  (fun hx=>by rw[upd_ne ZD]at hx;have q:=m.e11 hx;exact⟨⟨by rw[upd_ne ZD];exact q.1.1,by rw[upd_ne ZD];exact q.1.2.1,by rw[upd_ne ZD];exact q.1.2.2.1,by rw[upd_ne ZD];exact q.1.2.2.2⟩,q.2⟩),
  (fun hx=>by rw[upd_ne ZD]at hx;have q:=m.e12 hx;exact⟨by rw[upd_ne ZD];exact q.1,q.2⟩),
  (fun hx=>by rw[upd_ne ZD]at hx;have q:=m.e13 hx;exact⟨by rw[upd_ne ZD];exact q.1,q.2⟩)⟩
theorem NewW.s10{v':Value}(h:NewW n O P V4 V6 w5 f wr v22 v23 v24 v25 v26 v27 v28 v29 v30 v31 v32 v33 v34 v7)(hb:Below wr.heap.size wr w')(hf:f 10=false)(hv:∃g,v'=.slice (some ⟨g,0,none⟩) n n∧wr.heap.size≤g∧w'.ownsRow w5.heap.size 23 1 (.slice (some ⟨g,0,none⟩) n n) n (List.replicate n (.slice none 0 0))):NewW n O P V4 V6 w5 (upd f 10) w' v22 v23 v24 v25 v26 v27 v28 v29 v30 v31 v' v33 v34 v7:=by
 have m:=h.mono hb
 exact⟨m.hb,(fun hx=>m.e0 ZU),
  (fun hx=>m.e1 ZU),
  (fun hx=>m.e2 ZU),
  (fun hx=>m.e3 ZU),
  (fun hx=>m.e4 ZU),
  (fun hx=>m.e5 ZU),
  (fun hx=>m.e6 ZU),
  (fun hx=>m.e7 ZU),
  (fun hx=>m.e8 ZU),
  (fun hx=>m.e9 ZU),
  (fun _=>by obtain⟨g,h1,_,h2⟩:=hv;exact⟨g,h1,h2⟩),
  (fun h3 h6=>m.d36 (by rw[upd_ne ZD]at h3;exact h3) (by rw[upd_ne ZD]at h6;exact h6)),
  (fun h3 _ b e1 e2=>by rw[upd_ne ZD]at h3;obtain⟨g,h1,h2,_⟩:=hv;obtain⟨g',h5,h4⟩:=h.e8 h3;subst h1 h5;have:=(h4.lt b e1).2;cases e2;dsimp only at this;omega),
  (fun hx=>by rw[upd_ne ZD]at hx;have:=(m.e11 hx).1.2.2.2;rw[hf]at this;cases this),
  (fun hx=>by rw[upd_ne ZD]at hx;have:=(m.e11 (m.e12 hx).1).1.2.2.2;rw[hf]at this;cases this),
  (fun hx=>by rw[upd_ne ZD]at hx;have q:=m.e13 hx;exact⟨by rw[upd_ne ZD];exact q.1,q.2⟩)⟩
theorem NewW.s11{v':Value}(h:NewW n O P V4 V6 w5 f wr v22 v23 v24 v25 v26 v27 v28 v29 v30 v31 v32 v33 v34 v7)(hb:Below wr.heap.size wr w')(hf:f 11=false)(hv:(f 3=true∧f 6=true∧f 8=true∧f 10=true)∧v'=.agg #[v25,v28,v30,v32]):NewW n O P V4 V6 w5 (upd f 11) w' v22 v23 v24 v25 v26 v27 v28 v29 v30 v31 v32 v' v34 v7:=by
 have m:=h.mono hb
 exact⟨m.hb,(fun hx=>m.e0 ZU),
  (fun hx=>m.e1 ZU),
  (fun hx=>m.e2 ZU),
  (fun hx=>m.e3 ZU),
  (fun hx=>m.e4 ZU),
  (fun hx=>m.e5 ZU),
  (fun hx=>m.e6 ZU),
  (fun hx=>m.e7 ZU),
  (fun hx=>m.e8 ZU),
  (fun hx=>m.e9 ZU),
  (fun hx=>m.e10 ZU),
  (fun h3 h6=>m.d36 (by rw[upd_ne ZD]at h3;exact h3) (by rw[upd_ne ZD]at h6;exact h6)),
  (fun h3 h6=>m.d8a (by rw[upd_ne ZD]at h3;exact h3) (by rw[upd_ne ZD]at h6;exact h6)),
  (fun _=>⟨⟨by rw[upd_ne ZD];exact hv.1.1,by rw[upd_ne ZD];exact hv.1.2.1,by rw[upd_ne ZD];exact hv.1.2.2.1,by rw[upd_ne ZD];exact hv.1.2.2.2⟩,hv.2⟩),
  (fun hx=>by rw[upd_ne ZD]at hx;have:=(m.e12 hx).1;rw[hf]at this;cases this),
  (fun hx=>by rw[upd_ne ZD]at hx;have q:=m.e13 hx;exact⟨by rw[upd_ne ZD];exact q.1,q.2⟩)⟩
theorem NewW.s12{v':Value}(h:NewW n O P V4 V6 w5 f wr v22 v23 v24 v25 v26 v27 v28 v29 v30 v31 v32 v33 v34 v7)(hb:Below wr.heap.size wr w')(hf:f 12=false)(hv:f 11=true∧∃tb,v'=.pointer (some ⟨tb,0,none⟩)∧tb<w'.heap.size∧wr.heap.size≤tb∧(w'.cell? ⟨tb,0,none⟩=some v25∧w'.cell? ⟨tb,1,none⟩=some v28∧w'.cell? ⟨tb,2,none⟩=some v30∧w'.cell? ⟨tb,3,none⟩=some v32)):NewW n O P V4 V6 w5 (upd f 12) w' v22 v23 v24 v25 v26 v27 v28 v29 v30 v31 v32 v33 v' v7:=by
 have m:=h.mono hb
 exact⟨m.hb,(fun hx=>m.e0 ZU),
  (fun hx=>m.e1 ZU),
  (fun hx=>m.e2 ZU),
  (fun hx=>m.e3 ZU),
  (fun hx=>m.e4 ZU),
  (fun hx=>m.e5 ZU),
  (fun hx=>m.e6 ZU),
  (fun hx=>m.e7 ZU),
  (fun hx=>m.e8 ZU),
  (fun hx=>m.e9 ZU),
  (fun hx=>m.e10 ZU),
  (fun h3 h6=>m.d36 (by rw[upd_ne ZD]at h3;exact h3) (by rw[upd_ne ZD]at h6;exact h6)),
  (fun h3 h6=>m.d8a (by rw[upd_ne ZD]at h3;exact h3) (by rw[upd_ne ZD]at h6;exact h6)),
  (fun hx=>by rw[upd_ne ZD]at hx;have q:=m.e11 hx;exact⟨⟨by rw[upd_ne ZD];exact q.1.1,by rw[upd_ne ZD];exact q.1.2.1,by rw[upd_ne ZD];exact q.1.2.2.1,by rw[upd_ne ZD];exact q.1.2.2.2⟩,q.2⟩),
  (fun _=>by
    obtain⟨h0,tb,h1,h2,h3,hc⟩:=hv;obtain⟨⟨f3,f6,f8,fa⟩,_⟩:=h.e11 h0;refine⟨by rw[upd_ne ZD];exact h0,tb,h1,h2,Nat.le_trans h.hb.size h3,hc,fun b hb'=>?_⟩;obtain⟨g1,q1,L,_,o1⟩:=h.e3 f3;obtain⟨g2,q2,o2⟩:=h.e6 f6;obtain⟨g3,q3,o3⟩:=h.e8 f8;obtain⟨g4,q4,o4⟩:=h.e10 fa;subst q1 q2 q3 q4;rcases hb' with e|e|e|e
    · have:=(o1.lt b e).2;omega
    · have:=(o2.lt b e).2;omega
    · have:=(o3.lt b e).2;omega
    · have:=(o4.lt b e).2;omega),
  (fun hx=>by rw[upd_ne ZD]at hx;have:=(m.e13 hx).1;rw[hf]at this;cases this)⟩
theorem NewW.s13{v':Value}(h:NewW n O P V4 V6 w5 f wr v22 v23 v24 v25 v26 v27 v28 v29 v30 v31 v32 v33 v34 v7)(hb:Below wr.heap.size wr w')(_:f 13=false)(hv:f 12=true∧v'=v34):NewW n O P V4 V6 w5 (upd f 13) w' v22 v23 v24 v25 v26 v27 v28 v29 v30 v31 v32 v33 v34 v':=by
 have m:=h.mono hb
 exact⟨m.hb,(fun hx=>m.e0 ZU),
  (fun hx=>m.e1 ZU),
  (fun hx=>m.e2 ZU),
  (fun hx=>m.e3 ZU),
  (fun hx=>m.e4 ZU),
  (fun hx=>m.e5 ZU),
  (fun hx=>m.e6 ZU),
  (fun hx=>m.e7 ZU),
  (fun hx=>m.e8 ZU),
  (fun hx=>m.e9 ZU),
  (fun hx=>m.e10 ZU),
  (fun h3 h6=>m.d36 (by rw[upd_ne ZD]at h3;exact h3) (by rw[upd_ne ZD]at h6;exact h6)),
  (fun h3 h6=>m.d8a (by rw[upd_ne ZD]at h3;exact h3) (by rw[upd_ne ZD]at h6;exact h6)),
  (fun hx=>by rw[upd_ne ZD]at hx;have q:=m.e11 hx;exact⟨⟨by rw[upd_ne ZD];exact q.1.1,by rw[upd_ne ZD];exact q.1.2.1,by rw[upd_ne ZD];exact q.1.2.2.1,by rw[upd_ne ZD];exact q.1.2.2.2⟩,q.2⟩),
  (fun hx=>by rw[upd_ne ZD]at hx;have q:=m.e12 hx;exact⟨by rw[upd_ne ZD];exact q.1,q.2⟩),
  (fun _=>⟨by rw[upd_ne ZD];exact hv.1,hv.2⟩)⟩
end
end Go.Proofs.YtjlclkcmfokobaaGreatDoor
namespace Go.Proofs.YtjlclkcmfokobaaGreatDoor
open Go Go.RowKit
theorem YlX{P:Program}{w:World}{ops:Array Oper}{rest:List Oper}{o:Oper}{a:Act}{Q:Exit→Act→World→Prop}(hgd:o.guard=none)(s:Operand)(t:TypeId)(ho:o.op=.slice t s (some (.const (.int .i64 1))) none none)
 (e:TypeId) (ht:P.underlying t=some (.slice e)) (hsz:(P.info? e).map (·.size)=some 1) (b off len cap:Nat) (hs:a.eval s=.slice (some ⟨b,off,none⟩) len cap) (h1:1≤len) (hc:len≤cap)
 (h:∀X,(1<len→X=some ⟨b,off+1,none⟩)→wpList P ops Q rest (a.put o.dst (.slice X (len-1) (cap-1))) w):wpList P ops Q (o::rest) a w:=by
 refine wpList_plain hgd fun K hK=>?_
 have h2:=h (if cap=1 then some ⟨b,off,none⟩ else some ⟨b,off+1,none⟩) (fun h3=>if_neg ZO);cases hq:P.info? e with
 |none=>simp[hq]at hsz
 |some i=>
  have hi:i.size=1:=by simpa[hq]using hsz
  have h3:(1:Int)≤(len:Int):=by omega
  unfold Oper.wp;have he:a.eval (.const (.int .i64 1))=.int .i64 1:=rfl;simp[execOp,ho,hs,he,Instr.sliceAt,Instr.slice,run_underlying ht,Instr.sliceBounds,Instr.sliceBound,asIntOf,sizeOf,typeInfo,hq,hi,Result.andThen,h3,Addr.add];exact hK _ _ h2
end Go.Proofs.YtjlclkcmfokobaaGreatDoor
