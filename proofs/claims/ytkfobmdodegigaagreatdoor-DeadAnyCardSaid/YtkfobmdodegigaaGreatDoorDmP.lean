/- The plain law of dead: what is needed, by a queue and by rounds. -/
import Derived.Test.YtkfobmdodegigaaGreatDoorDmA
import Derived.Test.YtkfobmdodegigaaGreatDoorMkRows
import Derived.Test.YtkfobmdodegigaaGreatDoorMem
import Derived.Test.YtkfobmdodegigaaGreatDoorMonL
namespace Go.Proofs.YtkfobmdodegigaaGreatDoor
open Go.RowKit
set_option maxRecDepth 100000
def staysI(x:PInst):Bool:=staysB x.op.toNat
inductive Nd (F:PFunc):Int→Prop
 |inst {b:PBlock} {x:PInst} {v:Int} (hb:b∈F.blocks) (hx:x∈b.insts) (hs:staysI x=true) (hv:v∈x.args):Nd F v
 |term {b:PBlock} (hb:b∈F.blocks) (hk:b.term.kind≠0):Nd F b.term.var
 |phi {b:PBlock} {p:PPhi} {v:Int} (hb:b∈F.blocks) (hp:p∈b.phis) (hd:Nd F p.dst) (hv:v∈p.args):Nd F v
 |arg {b:PBlock} {x:PInst} {v:Int} (hb:b∈F.blocks) (hx:x∈b.insts) (hs:staysI x=false) (hd:Nd F x.dst) (hv:v∈x.args):Nd F v
open Classical in
noncomputable def ndB (F:PFunc) (v:Nat):Bool:=decide (Nd F (v:Int))
noncomputable def ndL (F:PFunc):List Bool:=(List.range F.vars.length).map (ndB F)
def phiIt(p:PPhi):Int×List Int:=(p.dst,p.args)
def insIt(l:List PInst):List (Int×List Int):=(l.filter fun x=>!staysI x).map fun x=>(x.dst,x.args)
def blkIt(b:PBlock):List (Int×List Int):=b.phis.map phiIt++insIt b.insts
def fnIt(l:List PBlock):List (Int×List Int):=l.flatMap blkIt
def layIt(t:List (List Int))(e:Int×List Int):List (List Int):=t.set e.1.toNat e.2
def tkL(n:Nat)(l:List (Int×List Int)):List (List Int):=l.foldl layIt (List.replicate n [])
theorem rev_ind{α:Type}{p:List α→Prop}(h0:p [])(h1:∀l e,p l→p (l++[e]))(l:List α):p l:=by
 rw[← List.reverse_reverse l]
 induction l.reverse with
 |nil=>exact h0
 |cons e l ih=>rw[List.reverse_cons];exact h1 _ _ ih
theorem lay_len{l:List (Int×List Int)}:∀{t:List (List Int)},(l.foldl layIt t).length=t.length:=by
 induction l with
 |nil=>intro t;rfl
 |cons e l ih=>intro t;rw[List.foldl_cons,ih,layIt,List.length_set]
theorem tkL_len{n:Nat}{l:List (Int×List Int)}:(tkL n l).length=n:=by rw[tkL,lay_len,List.length_replicate]
theorem tkL_snoc{n:Nat}{l:List (Int×List Int)}{e:Int×List Int}:tkL n (l++[e])=(tkL n l).set e.1.toNat e.2:=by rw[tkL,List.foldl_append];rfl
theorem tkL_from{n v:Nat}{u:Int}:∀{l:List (Int×List Int)},u∈(tkL n l).getD v []→∃e∈l,e.1.toNat=v∧u∈e.2:=by
 intro l;refine rev_ind (p:=fun l=>u∈(tkL n l).getD v []→∃e∈l,e.1.toNat=v∧u∈e.2) ?_ (fun l e ih=>?_) l
 · intro h
   have:(tkL n []).getD v []=[]:=by
    unfold tkL;simp only[List.foldl_nil,List.getD,List.getElem?_replicate];split<;>rfl
   rw[this]at h;cases h
 · intro h
   rw[tkL_snoc]at h
   by_cases he:e.1.toNat=v
   · subst he
     by_cases hl:e.1.toNat<n
     · have:((tkL n l).set e.1.toNat e.2).getD e.1.toNat []=e.2:=by simp[List.getD,tkL_len,hl]
       rw[this]at h;exact⟨e,ZS,rfl,h⟩
     · have:((tkL n l).set e.1.toNat e.2).getD e.1.toNat []=[]:=by
        rw[List.getD_eq_getElem?_getD,List.getElem?_eq_none (by rw[List.length_set,tkL_len];omega)];rfl
       rw[this]at h;cases h
   · have:((tkL n l).set e.1.toNat e.2).getD v []=(tkL n l).getD v []:=by
      rw[List.getD_eq_getElem?_getD,List.getD_eq_getElem?_getD,List.getElem?_set_ne he]
     rw[this]at h;obtain⟨e',h1,h2⟩:=ih h;exact⟨e',List.mem_append_left _ h1,h2⟩
theorem tkL_at{n:Nat}{e:Int×List Int}(hn:e.1.toNat<n):∀{l:List (Int×List Int)},e∈l→(∀e'∈l,e'.1.toNat=e.1.toNat→e'.2=e.2)→(tkL n l).getD e.1.toNat []=e.2:=by
 intro l;refine rev_ind (p:=fun l=>e∈l→(∀e'∈l,e'.1.toNat=e.1.toNat→e'.2=e.2)→(tkL n l).getD e.1.toNat []=e.2) (fun h=>by cases h) (fun l e' ih=>?_) l
 · intro hm hu
   rw[tkL_snoc]
   by_cases he:e'.1.toNat=e.1.toNat
   · rw[he,List.getD_eq_getElem?_getD,List.getElem?_set_self (by rw[tkL_len];exact hn),← hu e' ZS he]
     rfl
   · rw[List.getD_eq_getElem?_getD,List.getElem?_set_ne he,← List.getD_eq_getElem?_getD]
     refine ih ?_ fun e'' h=>hu e'' (List.mem_append_left _ h)
     rcases List.mem_append.1 hm with h|h
     · exact h
     · rw[List.mem_singleton]at h
       exact absurd (by rw[h]) he
def itOk(F:PFunc):Prop:=∀e∈fnIt F.blocks,∀e'∈fnIt F.blocks,e'.1.toNat=e.1.toNat→e'.2=e.2
theorem ins_sub:∀{l:List PInst},((insIt l).map (·.1)).Sublist (l.map (·.dst)):=by
 intro l;have:(insIt l).map (·.1)=(l.filter fun x=>!staysI x).map (·.dst):=by unfold insIt;rw[List.map_map];rfl
 rw[this];exact List.Sublist.map _ List.filter_sublist
theorem blk_evs{F:PFunc}{i:Nat}:((blkIt (F.blk i)).map (·.1)).Sublist ((evBlk F i).map (·.dst)):=by
 have h1:(evBlk F i).map (·.dst)=(F.blk i).phis.map (·.dst)++(F.blk i).insts.map (·.dst):=by
  unfold evBlk evPhi evIns;rw[List.map_append,List.map_map,List.map_map];congr 1
  · refine List.ext_getElem ZS fun k h1 h2=>?_
    simp at h1;simp[PBlock.phi,h1]
  · refine List.ext_getElem ZS fun k h1 h2=>?_
    simp at h1;simp[PBlock.inst,h1]
 have h2:(blkIt (F.blk i)).map (·.1)=(F.blk i).phis.map (·.dst)++(insIt (F.blk i).insts).map (·.1):=by
  unfold blkIt;rw[List.map_append,List.map_map];rfl
 rw[h1,h2];exact List.Sublist.append (List.Sublist.refl _) ins_sub
theorem fn_evs{F:PFunc}:∀n,n≤F.blocks.length→((fnIt (F.blocks.take n)).map (·.1)).Sublist ((evs F n).map (·.dst))
 |0,_=>by simp[fnIt,evs]
 |n+1,hn=>by
  have hb:F.blocks.take (n+1)=F.blocks.take n++[F.blk n]:=by
   rw[List.take_add_one,PFunc.blk_get ZO];rfl
  rw[hb,fnIt,List.flatMap_append,List.map_append,evs,List.map_append];refine List.Sublist.append (fn_evs n ZO) ?_;simpa using blk_evs (F:=F) (i:=n)
theorem it_ok{F:PFunc}(ho:onceB F=true)(hr:∀e∈fnIt F.blocks,0≤e.1∧e.1<F.vars.length):itOk F:=by
 intro e he e' he' hd;have hre:=hr e he;have hre':=hr e' he';have hd2:e'.1=e.1:=by omega
 have hs:=fn_evs (F:=F) F.blocks.length (Nr _);rw[List.take_length]at hs;have hoa:=List.all_eq_true.1 ho e.1.toNat (List.mem_range.2 ZO);unfold onceAt mkOf at hoa;rw[Bool.not_eq_true',Bool.or_eq_false_iff]at hoa;have h1:=of_decide_eq_false hoa.1;rw[List.length_map,Int.toNat_of_nonneg hre.1]at h1;have h2:=(hs.filter (fun d=>d==e.1)).length_le;rw[List.filter_map,List.filter_map,List.length_map,List.length_map]at h2;have h3:((fnIt F.blocks).filter ((fun d=>d==e.1)∘(·.1))).length≤1:=Nat.le_trans h2 (Nat.le_of_not_lt h1);have m1:e∈(fnIt F.blocks).filter ((fun d=>d==e.1)∘(·.1)):=List.mem_filter.2 ⟨he,ZS⟩;have m2:e'∈(fnIt F.blocks).filter ((fun d=>d==e.1)∘(·.1)):=List.mem_filter.2 ⟨he',by simp[hd2]⟩;generalize (fnIt F.blocks).filter ((fun d=>d==e.1)∘(·.1))=L at *
 match L,h3,m1,m2 with
 |[a],_,m1,m2=>
  rw[List.mem_singleton]at m1 m2;rw[m1,m2]
 |_::_::_,h3,_,_=>simp at h3
theorem nd_closed{F:PFunc}{is:List Bool}(hl:is.length=F.vars.length)(hok:itOk F)(hr:∀e∈fnIt F.blocks,0≤e.1∧e.1<F.vars.length)(h1:∀v,is.getD v false=true→Nd F (v:Int))
 (h2:∀b∈F.blocks,∀x∈b.insts,staysI x=true→∀v∈x.args,is.getD v.toNat false=true) (h3:∀b∈F.blocks,b.term.kind≠0→is.getD b.term.var.toNat false=true)
 (h4:∀v,is.getD v false=true→∀u∈(tkL F.vars.length (fnIt F.blocks)).getD v [],is.getD u.toNat false=true):is=ndL F:=by
 have key:∀v,Nd F v→is.getD v.toNat false=true:=by
  intro v h
  induction h with
  |inst hb hx hs hv=>exact h2 _ hb _ hx hs _ hv
  |term hb hk=>exact h3 _ hb hk
  |@phi b p v hb hp hd hv ih=>
   have hm:phiIt p∈fnIt F.blocks:=List.mem_flatMap.2 ⟨b,hb,List.mem_append_left _ (List.mem_map.2 ⟨p,hp,rfl⟩)⟩;refine h4 _ ih v ?_;have:=tkL_at (n:=F.vars.length) (e:=phiIt p) (by have:=hr _ hm;omega) hm (fun e' h' hd=>hok _ hm e' h' hd);have h5:(tkL F.vars.length (fnIt F.blocks)).getD p.dst.toNat []=p.args:=this;rw[h5];exact hv
  |@arg b x v hb hx hs hd hv ih=>
   have hm:(x.dst,x.args)∈fnIt F.blocks:=List.mem_flatMap.2 ⟨b,hb,List.mem_append_right _ (List.mem_map.2 ⟨x,List.mem_filter.2 ⟨hx,by simp[hs]⟩,rfl⟩)⟩;refine h4 _ ih v ?_;have:=tkL_at (n:=F.vars.length) (e:=(x.dst,x.args)) (by have:=hr _ hm;omega) hm (fun e' h' hd=>hok _ hm e' h' hd);have h5:(tkL F.vars.length (fnIt F.blocks)).getD x.dst.toNat []=x.args:=this;rw[h5];exact hv
 refine List.ext_getElem (by rw[hl];simp[ndL]) fun i hi1 hi2=>?_
 have hgi:is[i]=is.getD i false:=by simp[List.getD,hi1]
 have hri:(ndL F)[i]=ndB F i:=by simp[ndL]
 rw[hgi,hri,Bool.eq_iff_iff];have hnb:ndB F i=true↔Nd F (i:Int):=by unfold ndB;simp
 rw[hnb];exact⟨h1 i,fun h=>by have:=key _ h;simpa using this⟩
theorem nd_takes{F:PFunc}(hr:∀e∈fnIt F.blocks,0≤e.1∧e.1<F.vars.length){v:Nat}{u:Int}(hv:Nd F (v:Int))(hu:u∈(tkL F.vars.length (fnIt F.blocks)).getD v []):Nd F u:=by
 obtain⟨e,he,h1,h2⟩:=tkL_from hu;have h3:=hr e he;have h4:e.1=(v:Int):=by omega
 obtain⟨b,hb,hm⟩:=List.mem_flatMap.1 he;rcases List.mem_append.1 hm with hm|hm
 · obtain⟨p,hp,rfl⟩:=List.mem_map.1 hm
   exact .phi hb hp (by have h5:p.dst=(v:Int):=h4;rw[h5];exact hv) h2
 · obtain⟨x,hx,rfl⟩:=List.mem_map.1 hm
   obtain⟨hx,hs⟩:=List.mem_filter.1 hx;exact .arg hb hx (by simpa using hs) (by have h5:x.dst=(v:Int):=h4;rw[h5];exact hv) h2
def QRow(w:World)(B:Nat)(v:Value)(xs:List Int):Prop:=∃X c,v=.slice X xs.length c∧xs.length≤c∧c≤maxLen∧(c=0∨∃g off cur,X=some ⟨g,off,none⟩∧B≤g∧w.heap[g]?=some (.cells cur 3 (0,0))∧off+c≤cur.size∧∀i u,xs[i]?=some u→cur[off+i]?=some (.int .i64 u))
theorem wpList_append_runD{P:Program}{ops:Array Oper}{rest:List Oper}{o:Oper}{a:Act}{w w':World}{Q:Exit→Act→World→Prop}(hgd:o.guard=none)(s x:Operand)(t:TypeId)(ho:o.op=.call { callee:=.builtin .append,args:=#[s,x],argTypes:=#[t,t] }){u y v:Value}(hs:a.eval s=u)(hx:a.eval x=y)
 (hrun:(Builtin.append_ #[t,t] o.type #[u,y]).run P w=.ok v w') (h:wpList P ops Q rest (a.put o.dst v) w'):wpList P ops Q (o::rest) a w:=
 wpList_plain hgd fun _ hK=>wp_append_run s x t ho hs hx hrun (hK _ _ h)
section
variable {w w':World} {B:Nat} {v:Value} {xs:List Int}
theorem QRow.nil:QRow w B (.slice none 0 0) []:=⟨none,0,rfl,Nr _,ZD,.inl rfl⟩
theorem QRow.form(h:QRow w B v xs):∃X c,v=.slice X xs.length c:=by
 obtain⟨X,c,h1,-⟩:=h;exact⟨X,c,h1⟩
theorem QRow.turn(h:QRow w B v xs)(hk:∀k,B≤k→NT [3] w k→w'.heap[k]?=w.heap[k]?):QRow w' B v xs:=by
 obtain⟨X,c,h1,h2,h3,h4⟩:=h;refine⟨X,c,h1,h2,h3,h4.imp id fun⟨g,off,cur,e1,e2,e3,e4,e5⟩=>⟨g,off,cur,e1,e2,?_,e4,e5⟩⟩;rw[hk g e2 ⟨cur,_,e3,ZS⟩];exact e3
theorem QRow.below(h:QRow w B v xs)(hb:Below w.heap.size w w'):QRow w' B v xs:=h.turn fun k _ hn=>hb.block k hn.lt
theorem QRow.kt{ts:List TypeId}(h:QRow w B v xs)(hk:KT ts w w')(hi:3∈ts):QRow w' B v xs:=h.turn fun k _ hn=>hk.blk k (hn.mono (by simpa using hi))
theorem QRow.first{x:Int}{r:List Int}(h:QRow w B v (x::r)):∃g off c,v=.slice (some ⟨g,off,none⟩) (r.length+1) c∧r.length+1≤c∧c≤maxLen∧g<w.heap.size∧w.cell? ⟨g,off,none⟩=some (.int .i64 x):=by
 obtain⟨X,c,rfl,h2,h3,h4⟩:=h;rcases h4 with rfl|⟨g,off,cur,rfl,-,e3,e4,e5⟩
 · simp at h2
 · refine⟨g,off,c,rfl,h2,h3,(Array.getElem?_eq_some_iff.1 e3).1,?_⟩
   rw[cell_of_row w g off cur 3 (0,0) e3];have:=e5 0 x rfl;simpa using this
theorem QRow.tail{x:Int}{r:List Int}{g off c:Nat}(h:QRow w B (.slice (some ⟨g,off,none⟩) (r.length+1) c) (x::r)):QRow w B (.slice (if c=1 then some ⟨g,off,none⟩ else some ⟨g,off+1,none⟩) r.length (c-1)) r:=by
 obtain⟨X,c',h1,h2,h3,h4⟩:=h;simp only[Value.slice.injEq,List.length_cons,true_and]at h1;obtain⟨rfl,rfl⟩:=h1;rw[List.length_cons]at h2;refine⟨_,_,rfl,ZO,ZO,?_⟩
 by_cases hc:c=1
 · exact .inl ZO
 · rcases h4 with h4|⟨g',off',cur,e1,e2,e3,e4,e5⟩
   · exact ZO
   · cases e1
     rw[if_neg hc];exact .inr ⟨g,off+1,cur,rfl,e2,e3,ZO,fun i u hi=>by have:=e5 (i+1) u (by simpa using hi);rwa [show off+(i+1)=off+1+i from ZO]at this⟩
theorem QRow.app(h:QRow w B v xs){x:Int}{N:Nat}(hc:w.cell? ⟨N,0,none⟩=some (.int .i64 x))(hn:xs.length<1048576)(hB:B≤w.heap.size) :
 ∃v' w',(Builtin.append_ #[23,23] 23 #[v,.slice (some ⟨N,0,none⟩) 1 1]).run Tryz.prog w=.ok v' w'∧QRow w' B v' (xs++[x])∧Below B w w'∧∀k,(∀cs t,w.heap[k]?=some (.cells cs t (0,0))→t≠3)→k<w.heap.size→w'.heap[k]?=w.heap[k]?:=by
 obtain⟨i,hi,hz,hsz,hby⟩:=info_parts Tryz.info3;obtain⟨X,c,rfl,h2,h3,h4⟩:=h;have hnews:∀(j:Nat) u,([Value.int .i64 x])[j]?=some u→w.cell? ((⟨N,0,none⟩:Addr).add j)=some u:=fun j u hj=>by
  match j,hj with
  |0,hj=>
   simp at hj;subst hj;simpa[Addr.add]using hc
 by_cases hroom:xs.length+1≤c
 · rcases h4 with rfl|⟨g,off,cur,rfl,e2,e3,e4,e5⟩
   · exact ZO
   · have hf:=run_firstCells_some (P:=Tryz.prog) w i.size 1 ⟨N,0,none⟩ 1 1 [.int .i64 x] (by rw[hsz];rfl) hnews
     have hst:=run_storeCells_at Tryz.prog g (off+xs.length) 3 [.int .i64 x] 0 cur w e3 ZX (by simp[Value.oneCell']);simp only[Nat.add_zero]at hst;have hgl:=(Array.getElem?_eq_some_iff.1 e3).1;have hsc:(cur.toList.take (off+xs.length)++[Value.int .i64 x]++cur.toList.drop (off+xs.length+[Value.int .i64 x].length)).toArray.size=cur.size:=by simp;omega
     refine⟨.slice (some ⟨g,off,none⟩) (xs.length+1) c,w.setRow g (cur.toList.take (off+xs.length)++[Value.int .i64 x]++cur.toList.drop (off+xs.length+[Value.int .i64 x].length)).toArray,?_,?_,below_setRow (Br _ _) e2 _,fun k hk _=>setRow_other _ _ _ _ (fun e=>hk cur 3 (by rw[e];exact e3) rfl)⟩
     · rw[hsz]at hf
       simp[Builtin.append_,run_underlying Tryz.underlying23,sizeOf,typeInfo,hi,hsz,Builtin.lenOf,hroom,Addr.add_lit];simp[hf,hst]
     · refine⟨_,_,by rw[List.length_append,List.length_singleton],by simpa using hroom,h3,.inr ⟨g,off,_,rfl,e2,setRow_heap _ _ _ _ _ _ e3,by rw[hsc];exact e4,fun j u hj=>?_⟩⟩
       by_cases hjl:j<xs.length
       · rw[List.getElem?_append_left hjl]at hj
         have:=e5 j u hj;rw[List.getElem?_toArray,List.append_assoc,List.getElem?_append_left ZX,List.getElem?_take,if_pos ZO];simpa using this
       · rw[List.getElem?_append_right ZO]at hj
         have hj0:j=xs.length:=by
          have:=(List.getElem?_eq_some_iff.1 hj).1;simp at this;omega
         subst hj0;simp at hj;subst hj;have htl:(cur.toList.take (off+xs.length)).length=off+xs.length:=by simp;omega
         rw[List.getElem?_toArray,List.append_assoc,List.getElem?_append_right (by rw[htl];exact Nr _),htl,Nat.sub_self];rfl
 · have hcx:c=xs.length:=by omega
   subst hcx;have hfit:Builtin.nextslicecap (xs.length+1) xs.length*i.bytes≤281474976710656:=by
    rw[hby];have:Builtin.nextslicecap (xs.length+1) xs.length≤2*(xs.length+1):=nextslicecap_le ZO;omega
   have fin:∀(olds:List Value),olds=xs.map (Value.int .i64)→∀v' w',v'=.slice (some ⟨w.heap.size,0,none⟩) (xs.length+1) (grownCap w (xs.length+1) xs.length 3)→w'=w.drew.alloc (.cells (olds.toArray++[Value.int .i64 x].toArray++Builtin.zeroCells (Value.int .i64 0).cells (grownCap w (xs.length+1) xs.length 3-(xs.length+1))) 3)→
    QRow w' B v' (xs++[x])∧Below B w w'∧∀k,(∀cs t,w.heap[k]?=some (.cells cs t (0,0))→t≠3)→k<w.heap.size→w'.heap[k]?=w.heap[k]?:=by
    rintro olds rfl v' w' rfl rfl;have hcap:=grownCap_ge w (xs.length+1) xs.length 3;obtain⟨C,hC⟩:∃C:Array Value,C=(xs.map (Value.int .i64)).toArray++[Value.int .i64 x].toArray++Builtin.zeroCells (Value.int .i64 0).cells (grownCap w (xs.length+1) xs.length 3-(xs.length+1)):=⟨_,rfl⟩;rw[← hC];have hCs:C.size=grownCap w (xs.length+1) xs.length 3:=by
     rw[hC];simp[Builtin.zeroCells,Value.cells];omega
    have hnew:(w.drew.alloc (.cells C 3)).heap[w.heap.size]?=some (.cells C 3 (0,0)):=by
     have:=heap_alloc_new w.drew (.cells C 3)
     rwa [heap_drew]at this
    refine⟨⟨_,_,by rw[List.length_append,List.length_singleton],by simpa using hcap,grownCap_le_maxLen w _ _ _ (by unfold maxLen;omega),.inr ⟨w.heap.size,0,C,rfl,hB,hnew,by rw[hCs];omega,fun j u hj=>?_⟩⟩,((Br _ _).drew).alloc (by simpa using hB) _,fun k _ hk=>?_⟩
    · have hjl:=(List.getElem?_eq_some_iff.1 hj).1
      rw[hC,Nat.zero_add,Array.getElem?_append_left (by simp at hjl ⊢;omega)];have:(xs.map (Value.int .i64)).toArray++[Value.int .i64 x].toArray=((xs++[x]).map (Value.int .i64)).toArray:=by simp
      rw[this,List.getElem?_toArray,List.getElem?_map,hj];rfl
    · have:=heap_alloc_old w.drew (.cells C 3) (by simpa using hk)
      rwa [heap_drew]at this
   cases X with
   |none=>
    have hx0:xs=[]:=by
     rcases h4 with h4|⟨g,off,cur,e1,-⟩
     · exact List.eq_nil_of_length_eq_zero h4
     · cases e1
    subst hx0;have hr:=run_append_nil (P:=Tryz.prog) w 23 23 3 i _ Tryz.underlying23 hi hz ⟨N,0,none⟩ 1 1 [.int .i64 x] (by rw[hsz];rfl) hnews ZD ZD (by rw[hby];decide);refine⟨_,_,hr,fin [] rfl _ _ rfl ?_⟩;simp
   |some a=>
    have hold:∀(j:Nat) u,(xs.map (Value.int .i64))[j]?=some u→w.cell? (a.add j)=some u:=fun j u hj=>by
     have hjl:j<xs.length:=by have:=(List.getElem?_eq_some_iff.1 hj).1;simpa using this
     rcases h4 with h4|⟨g,off,cur,e1,-,e3,-,e5⟩
     · exact ZO
     · cases e1
       rw[Addr.add_lit,cell_of_row w g _ cur 3 (0,0) e3,e5 j _ (List.getElem?_eq_getElem hjl)];rw[List.getElem?_map,List.getElem?_eq_getElem hjl]at hj;exact hj
    have hr:=run_append_grow (P:=Tryz.prog) w 23 23 3 i _ Tryz.underlying23 hi hz a xs.length xs.length (xs.map (Value.int .i64)) (by rw[hsz];simp) hold ⟨N,0,none⟩ 1 1 [.int .i64 x] (by rw[hsz];rfl) hnews ZO ZO hfit;exact⟨_,_,hr,fin _ rfl _ _ rfl rfl⟩
end
def addO(s:List Bool×List Int)(v:Int):List Bool×List Int:=if s.1.getD v.toNat false=true then s else(s.1.set v.toNat true,s.2++[v])
def addR(s:List Bool×List Int)(l:List Int):List Bool×List Int:=l.foldl addO s
structure NeedS (n:Nat) (s:List Bool×List Int):Prop where
 len:s.1.length=n
 cnt:s.2.length+s.1.count false≤n
theorem countN_set{l:List Bool}{i:Nat}(h:l.getD i false=false)(hi:i<l.length):(l.set i true).count false+1=l.count false:=by
 have h2:l[i]=false:=by simpa[List.getD,hi]using h
 rw[List.count_set hi,h2];have:0<l.count false:=by rw[List.count_pos_iff,← h2];exact List.getElem_mem hi
 simp;omega
theorem NeedS.one{n:Nat}{s:List Bool×List Int}(h:NeedS n s){v:Int}(h0:0≤v)(h1:v<n):NeedS n (addO s v):=by
 unfold addO;split
 · exact h
 · rename_i hs
   have:=countN_set (l:=s.1) (i:=v.toNat) (by simpa using hs) (by rw[h.len];omega);have hc:=h.cnt;exact⟨by simpa using h.len,by simp only[List.length_append,List.length_singleton];omega⟩
theorem NeedS.all{n:Nat}{l:List Int}:∀{s:List Bool×List Int},NeedS n s→(∀v∈l,0≤v∧v<n)→NeedS n (addR s l):=by
 induction l with
 |nil=>intro s h _;exact h
 |cons v l ih=>intro s h hl;exact ih (h.one (hl v (List.mem_cons_self ..)).1 (hl v (List.mem_cons_self ..)).2) fun u hu=>hl u (List.mem_cons_of_mem _ hu)
theorem addR_take{s:List Bool×List Int}{l:List Int}{k:Nat}(h:k<l.length):addR s (l.take (k+1))=addO (addR s (l.take k)) (ith l k):=by
 rw[addR,List.take_add_one,ith_get h,List.foldl_append];rfl
structure NeedM (w:World) (B nb gi n:Nat) (s:List Bool×List Int):Prop where
 base:B≤nb
 box:∃v,BoxAt w nb #[.slice (some ⟨gi,0,none⟩) n n,v] 107∧QRow w B v s.2
 row:w.ownsRow B 4 1 (.slice (some ⟨gi,0,none⟩) n n) n (s.1.map Value.bool)
theorem NeedM.below{w w':World}{B nb gi n:Nat}{s:List Bool×List Int}(h:NeedM w B nb gi n s)(hb:Below w.heap.size w w'):NeedM w' B nb gi n s:=by
 obtain⟨v,h1,h2⟩:=h.box;exact⟨h.base,⟨v,h1.below hb h1.lt,h2.below hb⟩,own_below h.row hb⟩
theorem NeedM.kt{w w':World}{B nb gi n:Nat}{s:List Bool×List Int}(h:NeedM w B nb gi n s)(hk:KT [3,4,107] w w'):NeedM w' B nb gi n s:=by
 obtain⟨v,h1,h2⟩:=h.box;refine⟨h.base,⟨v,?_,h2.kt hk ZS⟩,own_kt h.row hk ZS⟩;exact(hk.blk nb ⟨_,_,h1,ZS⟩).trans h1
set_option maxHeartbeats 4000000 in
theorem addG_calls{w:World}{A:Option Addr}{c B nb gi n:Nat}{l:List Int}{s:List Bool×List Int}(hr:∀wr,Below B w wr→∀k,k<l.length→(k=0→wr=w)→∃b o,A=some ⟨b,o,none⟩∧b<wr.heap.size∧wr.cell? ⟨b,o+k,none⟩=some (.int .i64 (ith l k)))(hM:NeedM w B nb gi n s)(hS:NeedS n s)(hn:n≤100000)(hll:Len l.length)(hl:∀v∈l,0≤v∧v<n) :
 Calls Tryz.prog 63 #[.pointer (some ⟨nb,0,none⟩),.slice A l.length c] w fun e w'=>(∃v,e=.returned v)∧NeedM w' B nb gi n (addR s l)∧KT [23,46] w w'∧Below B w w':=by
 have HM:=Lh hM;have HS:=Lh hS;have hsz:B≤w.heap.size:=by
  obtain⟨v,h1,-⟩:=hM.box;have:=h1.lt;have:=hM.base;omega
 clear hM hS;unfold Len at hll;go_enter Tryz.func63,Tryz.ntmps63;go_wp2_with fail
 go_loopw[8] (fun i wr=>∃k:Nat,i=.int .i64 k∧k≤l.length∧(k=0→wr=w)∧NeedM wr B nb gi n (addR s (l.take k))∧KT [23,46] w wr∧Below B w wr) (fun i _=>l.length-(intOf i).toNat)
 case atStart=>exact⟨0,rfl,Nz _,fun _=>rfl,HM.out,KT.refl,Br _ _⟩
 case round=>as_aux_lemma=>
  obtain⟨k,rfl,hk,hz,hMr,hkt,hb⟩:=hrel
  by_cases hkl:k<l.length
  · obtain⟨b7,o7,rfl,hb7,hc7⟩:=hr wr hb k hkl hz
    clear hz;obtain⟨h0,h1⟩:=hl _ (List.mem_of_getElem? (ith_get hkl));obtain⟨f,hf⟩:∃f:Nat,ith l k=f:=⟨(ith l k).toNat,ZO⟩;have hst:=addR_take (s:=s) hkl;rw[hf]at hc7 hst;have hfn:f<n:=by omega
    have hSr:=HS.out.all (l:=l.take k) fun v hv=>hl v (List.mem_of_mem_take hv)
    generalize addR s (l.take k)=t at *;obtain⟨is,nx⟩:=t;obtain⟨v,hx,hq⟩:=hMr.box;have hbase:=hMr.base;have hrow:=hMr.row;have hlen:is.length=n:=hSr.len;have hcnt:=hSr.cnt;simp only at hq hrow hcnt;obtain⟨X,cq,rfl⟩:=hq.form;have x0:=hx.cell 0;have x1:=hx.cell 1;have xl:=hx.lt;simp at x0 x1;have hcb:=own_bool hrow hfn;have hgl:=(hrow.lt _ rfl).2;simp only at hgl;have hfI:(f:Int)<(n:Int):=by omega
    have HST:=Lh hst;have HROW:=Lh hrow;have HQ:=Lh hq;have HLEN:=Lh hlen;cases hbv:is.getD f false
    · rw[hbv]at hcb
      have hst2:addR s (l.take (k+1))=(is.set f true,nx++[(f:Int)]):=by rw[HST.out,addO,if_neg (by show ¬is.getD (f:Int).toNat false=true;rw[Int.toNat_natCast,hbv];decide),Int.toNat_natCast]
      have hcs:=countN_set hbv ZO;have HST2:=Lh hst2;have hfz:=hrow.frozenAt f;have hne:nb≠gi:=fun e=>by
       rcases hrow.2 with⟨h,-⟩|⟨g,cap,cur,h,-,hh,-⟩
       · cases h
       · cases h
         unfold BoxAt at hx;rw[e,hh]at hx;cases hx
      have hne2:gi≠nb:=fun e=>hne e.symm
      have hQ1:QRow (wr.setCell ⟨gi,f,none⟩ (.bool true)) B (.slice X nx.length cq) nx:=hq.turn fun k' _ hn'=>heap_set (fun e=>by
       obtain⟨cs,t,h1,h2⟩:=hn';rcases hrow.2 with⟨h,-⟩|⟨g,cap,cur,h,-,hh,-⟩
       · cases h
       · cases h
         simp at h2 e;rw[e,hh]at h1;cases h1
         cases h2)
      have hQ2:QRow ((wr.setCell ⟨gi,f,none⟩ (.bool true)).alloc (.cells #[.int .i64 (f:Int)] 3)) B (.slice X nx.length cq) nx:=hQ1.below ((Br _ _).alloc (Nr _) _)
      obtain⟨v9,w9,hr9,hq9,hb9,hk9⟩:=hQ2.app (x:=(f:Int)) (N:=wr.heap.size) (by
       have:=(BoxAt.new (wr.setCell ⟨gi,f,none⟩ (.bool true)) #[.int .i64 (f:Int)] 3).cell 0
       simpa using this) ZO (by have:=hb.size;simp;omega)
      obtain⟨X9,c9,rfl⟩:=hq9.form;rw[show(nx++[(f:Int)]).length=nx.length+1 from ZS]at hq9 hr9;have box9:∀{g:Nat} {cs:Array Value} {t:TypeId},BoxAt wr g cs t→g≠gi→t≠3→BoxAt w9 g cs t:=fun {g cs t} h h1 h2=>by
       have h3:=(h.other (p:=⟨gi,f,none⟩) (fun e=>h1 e.symm) (.bool true)).alloc (.cells #[.int .i64 (f:Int)] 3);exact(hk9 g (fun cs' t' h4=>by unfold BoxAt at h3;rw[h3]at h4;cases h4;exact h2) h3.lt).trans h3
      have y1:=box9 hx hne ZD;have e1:=y1.cell 1;have f1:=y1.frozen 1;have l1:=y1.lt;simp at e1;have HR9:=Lh hr9;clear hst hst2 hq hcnt hcs hbv hQ1 hQ2 hrow hMr hlen;go_wp2_with(at_builtin;refine wpList_append_runD rfl _ _ 23 rfl rfl rfl hr9 ?_);go_roundw
      case rel=>
       have hrow2:w9.ownsRow B 4 1 (.slice (some ⟨gi,0,none⟩) n n) n ((is.set f true).map Value.bool):=by
        have h1:=((HROW.out.stored f (.bool true)).1).alloc (.cells #[.int .i64 (f:Int)] 3);rw[List.map_set]
        exact own_turn h1 fun k' hk'=>hk9 k' (fun cs t h4=>by
         rcases h1.2 with⟨h,-⟩|⟨g,cap,cur,h,-,hh,-⟩
         · cases h
         · cases h
           cases hk';rw[hh]at h4;cases h4
           decide) (own_lt h1 hk').2
       have hkw:KT [23,46] wr (w9.setCell ⟨nb,1,none⟩ (.slice X9 (nx.length+1) c9)):=by
        have h1:KT [23,46] wr ((wr.setCell ⟨gi,f,none⟩ (.bool true)).alloc (.cells #[.int .i64 (f:Int)] 3)):=by
         rcases HROW.out.2 with⟨h,-⟩|⟨g,cap,cur,h,-,hh,-⟩
         · cases h
         · cases h
           exact(KT.refl.setCell (g:=gi) hh ZD _).alloc _
        have h2:KT [23,46] ((wr.setCell ⟨gi,f,none⟩ (.bool true)).alloc (.cells #[.int .i64 (f:Int)] 3)) w9:=⟨hb9.size,fun k' hn'=>hk9 k' (fun cs t h4=>by
         obtain⟨cs',t',h5,h6⟩:=hn';rw[h4]at h5;cases h5;intro e;rw[e]at h6
         exact absurd h6 ZD) hn'.lt⟩
        exact(h1.trans h2).setCell y1 ZD _
       have hbw:Below B wr (w9.setCell ⟨nb,1,none⟩ (.slice X9 (nx.length+1) c9)):=((((Br B wr).setCell (p:=⟨gi,f,none⟩) (HROW.out.lt _ rfl).1 _).alloc (by have:=hb.size;simp;omega) _).trans hb9).setCell hbase _;refine⟨k+1,ZN,ZO,fun h=>ZO,?_,hkt.trans hkw,hb.trans hbw⟩;rw[HST2.out];refine⟨hbase,⟨.slice X9 (nx.length+1) c9,by simpa using y1.set 1 (.slice X9 (nx.length+1) c9),?_⟩,?_⟩
       · exact hq9.turn fun k' _ hn'=>heap_set (fun e=>by
          obtain⟨cs,t,h1,h2⟩:=hn';simp at h2 e;rw[e]at h1;unfold BoxAt at y1;rw[y1]at h1;cases h1
          cases h2)
       · exact ownsRow_setCell_other hrow2 (fun e=>by simp only[Value.ownBlock,Option.some.injEq]at e;omega) _
      case measure=>simp[intOf];omega
    · rw[hbv]at hcb
      have hst2:addR s (l.take (k+1))=(is,nx):=by rw[HST.out,addO,if_pos (by rw[Int.toNat_natCast];exact hbv)]
      have HST2:=Lh hst2;have HMR:=Lh hMr;clear hst hst2 hq hcnt hbv hrow hMr hlen;go_wp2;go_roundw
      case rel=>exact⟨k+1,ZN,ZO,fun h=>ZO,by rw[HST2.out];exact HMR.out,hkt,hb⟩
      case measure=>simp[intOf];omega
  · obtain rfl:k=l.length:=by omega
    rw[List.take_length]at hMr;go_wp2;go_end0;exact⟨⟨_,rfl⟩,hMr,hkt,hb⟩
theorem add_calls{W w:World}{A:Option Addr}{c B nb gi n:Nat}{l:List Int}{s:List Bool×List Int}(hr:Rd W.heap.size A l 1 (IntC W))(hW:Below W.heap.size W w)(hB:W.heap.size≤B)(hM:NeedM w B nb gi n s)(hS:NeedS n s)(hn:n≤100000)(hll:Len l.length)(hl:∀v∈l,0≤v∧v<n) :
 Calls Tryz.prog 63 #[.pointer (some ⟨nb,0,none⟩),.slice A l.length c] w fun e w'=>(∃v,e=.returned v)∧NeedM w' B nb gi n (addR s l)∧KT [23,46] w w'∧Below B w w':=
 addG_calls (fun _ hb _ hk _=>hr.int (hW.trans (hb.mono hB)) hk) hM hS hn hll hl
theorem add1_calls{w:World}{c B nb gi n b o:Nat}{v:Int}{s:List Bool×List Int}(hlt:b<w.heap.size)(hc:w.cell? ⟨b,o,none⟩=some (.int .i64 v))(hM:NeedM w B nb gi n s)(hS:NeedS n s)(hn:n≤100000)(h0:0≤v)(h1:v<n) :
 Calls Tryz.prog 63 #[.pointer (some ⟨nb,0,none⟩),.slice (some ⟨b,o,none⟩) 1 c] w fun e w'=>(∃v,e=.returned v)∧NeedM w' B nb gi n (addO s v)∧KT [23,46] w w'∧Below B w w':=
 addG_calls (l:=[v]) (fun wr hb k hk hz=>by
  have hk0:k=0:=by simpa using hk
  subst hk0;have:=hz rfl;subst this
  exact⟨b,o,rfl,hlt,hc⟩) hM hS hn (by simp[Len]) fun u hu=>by rw[List.mem_singleton]at hu;rw[hu];exact⟨h0,h1⟩
section
variable {n:Nat} {s:List Bool×List Int} {l:List Int} {v u:Int}
theorem getD_set{l:List Bool}{i j:Nat}(hi:i<l.length):(l.set i true).getD j false=if i=j then true else l.getD j false:=by
 by_cases e:i=j
 · subst e
   simp[List.getD,hi]
 · simp[List.getD,List.getElem?_set_ne e,e]
theorem addO_mem(hl:s.1.length=n)(h0:0≤v)(h1:v<n){j:Nat}:(addO s v).1.getD j false=true↔s.1.getD j false=true∨v.toNat=j:=by
 unfold addO;split
 · rename_i h
   exact⟨.inl,fun h2=>h2.elim id fun e=>by rw[← e];exact h⟩
 · rw[getD_set (by rw[hl];omega)]
   split
   · rename_i e
     exact⟨fun _=>.inr e,fun _=>rfl⟩
   · rename_i e
     exact⟨.inl,fun h2=>h2.elim id fun e2=>absurd e2 e⟩
theorem addO_q:u∈(addO s v).2↔u∈s.2∨(u=v∧¬s.1.getD v.toNat false=true):=by
 unfold addO;split
 · rename_i h
   exact⟨.inl,fun h2=>h2.elim id fun e=>absurd h e.2⟩
 · rename_i h
   rw[List.mem_append,List.mem_singleton];exact⟨fun h2=>h2.imp id fun e=>⟨e,h⟩,fun h2=>h2.imp id And.left⟩
theorem addR_mem{j:Nat}:∀{l:List Int} {s:List Bool×List Int},NeedS n s→(∀v∈l,0≤v∧v<n)→((addR s l).1.getD j false=true↔s.1.getD j false=true∨∃v∈l,v.toNat=j)
 |[],s,_,_=>by simp[addR]
 |v::l,s,hs,hl=>by
  have hv:=hl v (List.mem_cons_self ..);show(addR (addO s v) l).1.getD j false=true↔_;rw[addR_mem (hs.one hv.1 hv.2) fun u hu=>hl u (List.mem_cons_of_mem _ hu),addO_mem hs.len hv.1 hv.2];simp only[List.mem_cons,exists_eq_or_imp];exact or_assoc
theorem addR_sub:∀{l:List Int} {s:List Bool×List Int},u∈s.2→u∈(addR s l).2
 |[],_,h=>h
 |_::l,_,h=>addR_sub (l:=l) (addO_q.2 (.inl h))
theorem addR_from:∀{l:List Int} {s:List Bool×List Int},u∈(addR s l).2→u∈s.2∨u∈l
 |[],_,h=>.inl h
 |v::l,s,h=>by
  rcases addR_from (l:=l) (s:=addO s v) h with h|h
  · rcases addO_q.1 h with h|h
    · exact .inl h
    · exact .inr (by rw[h.1];exact List.mem_cons_self ..)
  · exact .inr (List.mem_cons_of_mem _ h)
theorem addR_new:∀{l:List Int} {s:List Bool×List Int},NeedS n s→(∀v∈l,0≤v∧v<n)→∀{j:Nat},(addR s l).1.getD j false=true→s.1.getD j false=true∨(j:Int)∈(addR s l).2
 |[],_,_,_,_,h=>.inl h
 |v::l,s,hs,hl,j,h=>by
  have hv:=hl v (List.mem_cons_self ..);have hs2:=hs.one hv.1 hv.2;rcases addR_new hs2 (fun u hu=>hl u (List.mem_cons_of_mem _ hu)) (show(addR (addO s v) l).1.getD j false=true from h)with h|h
  · by_cases hj:s.1.getD j false=true
    · exact .inl hj
    · right
      rcases(addO_mem hs.len hv.1 hv.2).1 h with h|h
      · exact absurd h hj
      · have he:v=(j:Int):=by omega
        show(j:Int)∈(addR (addO s v) l).2;exact addR_sub (addO_q.2 (.inr ⟨he.symm,by rw[h];exact hj⟩))
  · exact .inr h
end
structure NdInv (F:PFunc) (s:List Bool×List Int):Prop where
 ns:NeedS F.vars.length s
 nd:∀v:Nat,s.1.getD v false=true→Nd F (v:Int)
 rng:∀v∈s.2,0≤v∧v<F.vars.length∧s.1.getD v.toNat false=true
 ins:∀b∈F.blocks,∀x∈b.insts,staysI x=true→∀v∈x.args,s.1.getD v.toNat false=true
 trm:∀b∈F.blocks,b.term.kind≠0→s.1.getD b.term.var.toNat false=true
 clo:∀v:Nat,s.1.getD v false=true→(v:Int)∈s.2∨∀u∈(tkL F.vars.length (fnIt F.blocks)).getD v [],s.1.getD u.toNat false=true
structure RngF (F:PFunc):Prop where
 it:∀e∈fnIt F.blocks,(0≤e.1∧e.1<F.vars.length)∧∀v∈e.2,0≤v∧v<F.vars.length
 ins:∀b∈F.blocks,∀x∈b.insts,∀v∈x.args,0≤v∧v<F.vars.length
 trm:∀b∈F.blocks,b.term.kind≠0→0≤b.term.var∧b.term.var<F.vars.length
theorem RngF.tk{F:PFunc}(h:RngF F){v:Nat}:∀u∈(tkL F.vars.length (fnIt F.blocks)).getD v [],0≤u∧u<F.vars.length:=fun u hu=>by
 obtain⟨e,he,-,h2⟩:=tkL_from hu;exact(h.it e he).2 u h2
theorem NdInv.pop{F:PFunc}{is:List Bool}{x:Nat}{r:List Int}(hr:RngF F)(h:NdInv F (is,(x:Int)::r)):NdInv F (addR (is,r) ((tkL F.vars.length (fnIt F.blocks)).getD x [])):=by
 have hx:=(h.rng (x:Int) (List.mem_cons_self ..)).2.2;rw[Int.toNat_natCast]at hx
 have h0:NeedS F.vars.length (is,r):=⟨h.ns.len,by
  have:=h.ns.cnt;simp only[List.length_cons]at this;show r.length+is.count false≤_
  omega⟩
 have ht:=hr.tk (v:=x);have hmem:=fun {j:Nat}=>addR_mem (j:=j) h0 ht
 have mono:∀{j:Nat},is.getD j false=true→(addR (is,r) ((tkL F.vars.length (fnIt F.blocks)).getD x [])).1.getD j false=true:=fun hj=>hmem.2 (.inl hj)
 refine⟨h0.all ht,fun v hv=>?_,fun v hv=>?_,fun b hb y hy hs u hu=>mono (h.ins b hb y hy hs u hu),fun b hb hk=>mono (h.trm b hb hk),fun v hv=>?_⟩
 · rcases hmem.1 hv with hv|⟨u,hu,e⟩
   · exact h.nd v hv
   · have:=nd_takes (fun e he=>(hr.it e he).1) (h.nd x hx) hu
     have h2:=(ht u hu).1;rw[← e,Int.toNat_of_nonneg h2];exact this
 · rcases addR_from hv with hv|hv
   · have:=h.rng v (List.mem_cons_of_mem _ hv)
     exact⟨this.1,this.2.1,mono this.2.2⟩
   · exact⟨(ht v hv).1,(ht v hv).2,hmem.2 (.inr ⟨v,hv,rfl⟩)⟩
 · rcases addR_new h0 ht hv with hv2|hv2
   · rcases h.clo v hv2 with h3|h3
     · rcases List.mem_cons.1 h3 with e|h3
       · have e2:v=x:=by omega
         subst e2;exact .inr fun u hu=>hmem.2 (.inr ⟨u,hu,rfl⟩)
       · exact .inl (addR_sub h3)
     · exact .inr fun u hu=>mono (h3 u hu)
   · exact .inl hv2
theorem NdInv.fin{F:PFunc}{is:List Bool}(ho:onceB F=true)(hr:RngF F)(h:NdInv F (is,[])):is=ndL F:=
 nd_closed h.ns.len (it_ok ho fun e he=>(hr.it e he).1) (fun e he=>(hr.it e he).1) h.nd h.ins h.trm fun v hv=>(h.clo v hv).elim (fun h=>by cases h) id
def stI(s:List Bool×List Int)(x:PInst):List Bool×List Int:=if staysI x=true then addR s x.args else s
def stT(s:List Bool×List Int)(t:PTerm):List Bool×List Int:=if t.kind=0 then s else addO s t.var
def blkS(s:List Bool×List Int)(b:PBlock):List Bool×List Int:=stT (b.insts.foldl stI s) b.term
def initS(n:Nat)(l:List PBlock):List Bool×List Int:=l.foldl blkS (List.replicate n false,[])
structure IniI (F:PFunc) (s:List Bool×List Int):Prop where
 ns:NeedS F.vars.length s
 nd:∀v:Nat,s.1.getD v false=true→Nd F (v:Int)
 q:∀v:Nat,s.1.getD v false=true→(v:Int)∈s.2
 rng:∀v∈s.2,0≤v∧v<F.vars.length∧s.1.getD v.toNat false=true
theorem IniI.add{F:PFunc}{s:List Bool×List Int}(h:IniI F s){l:List Int}(hl:∀v∈l,0≤v∧v<F.vars.length)(hn:∀v∈l,Nd F v):IniI F (addR s l):=by
 have hmem:=fun {j:Nat}=>addR_mem (j:=j) h.ns hl
 refine⟨h.ns.all hl,fun v hv=>?_,fun v hv=>?_,fun v hv=>?_⟩
 · rcases hmem.1 hv with hv|⟨u,hu,e⟩
   · exact h.nd v hv
   · have:=hn u hu
     rw[← e,Int.toNat_of_nonneg (hl u hu).1];exact this
 · rcases addR_new h.ns hl hv with hv2|hv2
   · exact addR_sub (h.q v hv2)
   · exact hv2
 · rcases addR_from hv with hv|hv
   · have:=h.rng v hv
     exact⟨this.1,this.2.1,hmem.2 (.inl this.2.2)⟩
   · exact⟨(hl v hv).1,(hl v hv).2,hmem.2 (.inr ⟨v,hv,rfl⟩)⟩
theorem addO_R{s:List Bool×List Int}{v:Int}:addO s v=addR s [v]:=rfl
theorem IniI.start{F:PFunc}:IniI F (List.replicate F.vars.length false,[]):=by
 have hz:∀v,(List.replicate F.vars.length false).getD v false=false:=fun v=>by
  simp only[List.getD,List.getElem?_replicate];split<;>rfl
 exact⟨⟨ZS,ZS⟩,fun v hv=>(by rw[hz]at hv;cases hv),fun v hv=>(by rw[hz]at hv;cases hv),fun v hv=>(by cases hv)⟩
theorem stI_mono{F:PFunc}{s:List Bool×List Int}{x:PInst}(h:IniI F s)(hr:∀v∈x.args,0≤v∧v<F.vars.length){j:Nat}(hj:s.1.getD j false=true):(stI s x).1.getD j false=true:=by
 unfold stI;split
 · exact(addR_mem h.ns hr).2 (.inl hj)
 · exact hj
theorem IniI.inst{F:PFunc}{s:List Bool×List Int}(hr:RngF F){b:PBlock}(hb:b∈F.blocks){x:PInst}(hx:x∈b.insts)(h:IniI F s):IniI F (stI s x):=by
 unfold stI;split
 · rename_i hs
   exact h.add (hr.ins b hb x hx) fun v hv=>.inst hb hx hs hv
 · exact h
theorem insts_ini{F:PFunc}(hr:RngF F){b:PBlock}(hb:b∈F.blocks):∀(l:List PInst) (s:List Bool×List Int),(∀x∈l,x∈b.insts)→IniI F s→IniI F (l.foldl stI s)∧(∀j,s.1.getD j false=true→(l.foldl stI s).1.getD j false=true)∧∀x∈l,staysI x=true→∀v∈x.args,(l.foldl stI s).1.getD v.toNat false=true
 |[],s,_,h=>⟨h,fun _ h=>h,fun x hx=>by cases hx⟩
 |y::l,s,hl,h=>by
  have hy:=hl y (List.mem_cons_self ..);have h2:=h.inst hr hb hy;obtain⟨a1,a2,a3⟩:=insts_ini hr hb l (stI s y) (fun x hx=>hl x (List.mem_cons_of_mem _ hx)) h2;refine⟨a1,fun j hj=>a2 j (stI_mono h (hr.ins b hb y hy) hj),fun x hx hs v hv=>?_⟩;rcases List.mem_cons.1 hx with rfl|hx
  · refine a2 _ ?_
    unfold stI;rw[if_pos hs];exact(addR_mem h.ns (hr.ins b hb x hy)).2 (.inr ⟨v,hv,rfl⟩)
  · exact a3 x hx hs v hv
theorem IniI.term{F:PFunc}{s:List Bool×List Int}(hr:RngF F){b:PBlock}(hb:b∈F.blocks)(h:IniI F s):IniI F (stT s b.term)∧(∀j,s.1.getD j false=true→(stT s b.term).1.getD j false=true)∧(b.term.kind≠0→(stT s b.term).1.getD b.term.var.toNat false=true):=by
 unfold stT;split
 · rename_i hk
   exact⟨h,fun _ h=>h,fun hk2=>absurd hk hk2⟩
 · rename_i hk
   have hv:=hr.trm b hb hk;rw[addO_R];have hl:∀v∈[b.term.var],0≤v∧v<F.vars.length:=fun v hm=>by rw[List.mem_singleton]at hm;rw[hm];exact hv
   exact⟨h.add hl fun v hm=>by rw[List.mem_singleton]at hm;rw[hm];exact .term hb hk,fun j hj=>(addR_mem h.ns hl).2 (.inl hj),fun _=>(addR_mem h.ns hl).2 (.inr ⟨_,List.mem_singleton.2 rfl,rfl⟩)⟩
theorem blks_ini{F:PFunc}(hr:RngF F):∀(l:List PBlock) (s:List Bool×List Int),(∀b∈l,b∈F.blocks)→IniI F s→IniI F (l.foldl blkS s)∧(∀j,s.1.getD j false=true→(l.foldl blkS s).1.getD j false=true)∧
 ∀b∈l,(∀x∈b.insts,staysI x=true→∀v∈x.args,(l.foldl blkS s).1.getD v.toNat false=true)∧(b.term.kind≠0→(l.foldl blkS s).1.getD b.term.var.toNat false=true)
 |[],s,_,h=>⟨h,fun _ h=>h,fun x hx=>by cases hx⟩
 |c::l,s,hl,h=>by
  have hc:=hl c (List.mem_cons_self ..);obtain⟨b1,b2,b3⟩:=insts_ini hr hc c.insts s (fun _ h=>h) h;obtain⟨c1,c2,c3⟩:=b1.term hr hc;obtain⟨a1,a2,a3⟩:=blks_ini hr l (blkS s c) (fun x hx=>hl x (List.mem_cons_of_mem _ hx)) c1;refine⟨a1,fun j hj=>a2 j (c2 j (b2 j hj)),fun b hb=>?_⟩;rcases List.mem_cons.1 hb with rfl|hb
  · exact⟨fun x hx hs v hv=>a2 _ (c2 _ (b3 x hx hs v hv)),fun hk=>a2 _ (c3 hk)⟩
  · exact a3 b hb
theorem init_inv{F:PFunc}(hr:RngF F):NdInv F (initS F.vars.length F.blocks):=by
 obtain⟨a1,-,a3⟩:=blks_ini hr F.blocks (List.replicate F.vars.length false,[]) (fun _ h=>h) IniI.start;exact⟨a1.ns,a1.nd,a1.rng,fun b hb x hx hs v hv=>(a3 b hb).1 x hx hs v hv,fun b hb hk=>(a3 b hb).2 hk,fun v hv=>.inl (a1.q v hv)⟩
theorem makes_stays:∀o:Nat,o<27→staysB o=false→makesB (o:Int)=true:=by decide +kernel
theorem inst_op{F:PFunc}{x:PInst}(h:instB F x=true):0≤x.op∧x.op<27:=by
 unfold instB isOp at h;simp only[Bool.and_eq_true]at h;exact inB_true h.1.1.1.1
theorem rngF_of{F:PFunc}(hT:typedP F=true):RngF F:=by
 have hblk:∀b∈F.blocks,∃i,i<F.blocks.length∧F.blk i=b:=fun b hb=>by
  obtain⟨i,hi,e⟩:=List.getElem_of_mem hb;exact⟨i,hi,by simp[PFunc.blk,List.getD,hi,e]⟩
 have hall:∀{l:List Int} {n:Int},(∀j,j<l.length→0≤ith l j∧ith l j<n)→∀v∈l,0≤v∧v<n:=fun {l n} h v hv=>by
  obtain⟨j,hj,e⟩:=List.getElem_of_mem hv;have:=h j hj;simp only[ith,List.getD,hj,List.getElem?_eq_getElem,Option.getD_some,e]at this;exact this
 refine⟨fun e he=>?_,fun b hb x hx v hv=>?_,fun b hb hk=>?_⟩
 · obtain⟨b,hb,hm⟩:=List.mem_flatMap.1 he
   obtain⟨i,hi,rfl⟩:=hblk b hb;rcases List.mem_append.1 hm with hm|hm
   · obtain⟨p,hp,rfl⟩:=List.mem_map.1 hm
     obtain⟨k,hk,e⟩:=List.getElem_of_mem hp;have hp2:(F.blk i).phi k=p:=by simp[PBlock.phi,List.getD,hk,e]
     obtain⟨-,h2,h3⟩:=typed_phi hT hi hk;rw[hp2]at h2 h3;exact⟨h2,hall h3⟩
   · obtain⟨x,hx,rfl⟩:=List.mem_map.1 hm
     obtain⟨hx,hs⟩:=List.mem_filter.1 hx;obtain⟨k,hk,e⟩:=List.getElem_of_mem hx;have hp2:(F.blk i).inst k=x:=by simp[PBlock.inst,List.getD,hk,e]
     obtain⟨-,h3⟩:=typed_inst hT hi hk;rw[hp2]at h3;refine⟨?_,hall h3⟩;have hB:=(shaped_blk (typed_shaped hT) hi).2.1 _ hx;have hm:=(instB_parts hB).2.2;refine inB_true (hm ?_);have hop:=inst_op hB;have hs':staysB x.op.toNat=false:=by simpa[staysI]using hs
     have:=makes_stays x.op.toNat ZO hs'
     rwa [Int.toNat_of_nonneg hop.1]at this
 · obtain⟨i,hi,rfl⟩:=hblk b hb
   obtain⟨k,hk,e⟩:=List.getElem_of_mem hx;have hp2:(F.blk i).inst k=x:=by simp[PBlock.inst,List.getD,hk,e]
   obtain⟨-,h3⟩:=typed_inst hT hi hk;rw[hp2]at h3;exact hall h3 v hv
 · obtain⟨i,hi,rfl⟩:=hblk b hb
   exact typed_term hT hi hk
section
variable {F:PFunc} {n k:Nat}
theorem takeBlk(hn:n<F.blocks.length):F.blocks.take (n+1)=F.blocks.take n++[F.blk n]:=by
 rw[List.take_add_one,PFunc.blk_get hn];rfl
theorem initS_succ(hn:n<F.blocks.length){m:Nat}:initS m (F.blocks.take (n+1))=stT ((F.blk n).insts.foldl stI (initS m (F.blocks.take n))) (F.blk n).term:=by
 rw[takeBlk hn,initS,List.foldl_append];rfl
theorem insS_succ{b:PBlock}(hk:k<b.insts.length){s:List Bool×List Int}:(b.insts.take (k+1)).foldl stI s=stI ((b.insts.take k).foldl stI s) (b.inst k):=by
 rw[List.take_add_one,PBlock.inst_get hk,List.foldl_append];rfl
theorem ini_at(hr:RngF F):IniI F (initS F.vars.length (F.blocks.take n)):=
 (blks_ini hr (F.blocks.take n) _ (fun _ h=>List.mem_of_mem_take h) IniI.start).1
theorem ini_in(hr:RngF F)(hn:n<F.blocks.length):IniI F (((F.blk n).insts.take k).foldl stI (initS F.vars.length (F.blocks.take n))):=
 (insts_ini hr (mem_of_blk hn) ((F.blk n).insts.take k) _ (fun _ h=>List.mem_of_mem_take h) (ini_at hr)).1
def tkP(F:PFunc)(n k:Nat):List (List Int):=tkL F.vars.length (fnIt (F.blocks.take n)++((F.blk n).phis.take k).map phiIt)
def tkI(F:PFunc)(n k:Nat):List (List Int):=tkL F.vars.length (fnIt (F.blocks.take n)++((F.blk n).phis.map phiIt++insIt ((F.blk n).insts.take k)))
theorem tkP_zero:tkP F n 0=tkL F.vars.length (fnIt (F.blocks.take n)):=by simp[tkP]
theorem tkP_succ(hk:k<(F.blk n).phis.length):tkP F n (k+1)=(tkP F n k).set ((F.blk n).phi k).dst.toNat ((F.blk n).phi k).args:=by
 unfold tkP;rw[List.take_add_one,PBlock.phi_get hk,Option.toList_some,List.map_append,List.map_singleton,← List.append_assoc,tkL_snoc];rfl
theorem tkP_end:tkP F n (F.blk n).phis.length=tkI F n 0:=by simp[tkP,tkI,insIt]
theorem tkI_stays(hk:k<(F.blk n).insts.length)(hs:staysI ((F.blk n).inst k)=true):tkI F n (k+1)=tkI F n k:=by
 unfold tkI insIt;rw[List.take_add_one,PBlock.inst_get hk,Option.toList_some,List.filter_append];simp[hs]
theorem tkI_succ(hk:k<(F.blk n).insts.length)(hs:staysI ((F.blk n).inst k)=false):tkI F n (k+1)=(tkI F n k).set ((F.blk n).inst k).dst.toNat ((F.blk n).inst k).args:=by
 have h:insIt ((F.blk n).insts.take (k+1))=insIt ((F.blk n).insts.take k)++[(((F.blk n).inst k).dst,((F.blk n).inst k).args)]:=by
  unfold insIt;rw[List.take_add_one,PBlock.inst_get hk,Option.toList_some,List.filter_append,List.map_append];simp[hs]
 unfold tkI;rw[h,← List.append_assoc,← List.append_assoc,tkL_snoc,List.append_assoc]
theorem tkI_end(hn:n<F.blocks.length):tkI F n (F.blk n).insts.length=tkL F.vars.length (fnIt (F.blocks.take (n+1))):=by
 rw[takeBlk hn];simp[tkI,fnIt,blkIt]
end
structure TkM (W w:World) (B gt n:Nat) (T:List (List Int)):Prop where
 len:T.length=n
 row:∃vs:List Value,vs.length=n∧w.ownsRow B 23 1 (.slice (some ⟨gt,0,none⟩) n n) n vs∧∀k v,vs[k]?=some v→SInts W W.heap.size v (T.getD k [])
section
variable {W w w':World} {B gt n:Nat} {T:List (List Int)}
theorem TkM.below(h:TkM W w B gt n T)(hb:Below w.heap.size w w'):TkM W w' B gt n T:=by
 obtain⟨vs,h1,h2,h3⟩:=h.row;exact⟨h.len,vs,h1,own_below h2 hb,h3⟩
theorem TkM.kt{ts:List TypeId}(h:TkM W w B gt n T)(hk:KT ts w w')(hi:23∈ts):TkM W w' B gt n T:=by
 obtain⟨vs,h1,h2,h3⟩:=h.row;exact⟨h.len,vs,h1,own_kt h2 hk hi,h3⟩
theorem TkM.blk(h:TkM W w B gt n T):B≤gt∧gt<w.heap.size:=by
 obtain⟨vs,h1,h2,h3⟩:=h.row;exact h2.lt _ rfl
theorem TkM.at_(h:TkM W w B gt n T){c:Nat}(hc:c<n):∃v,w.cell? ⟨gt,c,none⟩=some v∧SInts W W.heap.size v (T.getD c []):=by
 obtain⟨vs,h1,h2,h3⟩:=h.row;have hv:vs[c]?=some vs[c]:=List.getElem?_eq_getElem ZO;exact⟨vs[c],by rw[h2.cellAt c ZO];exact hv,h3 c _ hv⟩
theorem TkM.frozen(h:TkM W w B gt n T){c:Nat}:w.frozen? ⟨gt,c,none⟩=false:=by
 obtain⟨vs,h1,h2,h3⟩:=h.row;exact h2.frozenAt c
theorem TkM.put(h:TkM W w B gt n T){c:Nat}{v:Value}{l:List Int}(hv:SInts W W.heap.size v l)(hc:c<n):TkM W (w.setCell ⟨gt,c,none⟩ v) B gt n (T.set c l):=by
 obtain⟨vs,h1,h2,h3⟩:=h.row;refine⟨by rw[List.length_set];exact h.len,vs.set c v,by rw[List.length_set];exact h1,(h2.stored c v).1,fun k u hu=>?_⟩
 by_cases e:c=k
 · subst e
   rw[List.getElem?_set_self ZO]at hu;cases hu;have:(T.set c l).getD c []=l:=by rw[List.getD_eq_getElem?_getD,List.getElem?_set_self (by rw[h.len];exact hc)];rfl
   rw[this];exact hv
 · rw[List.getElem?_set_ne e]at hu
   have:(T.set c l).getD k []=T.getD k []:=by rw[List.getD_eq_getElem?_getD,List.getElem?_set_ne e,← List.getD_eq_getElem?_getD]
   rw[this];exact h3 k u hu
theorem TkM.ktSet(h:TkM W w B gt n T){ts:List TypeId}(hi:23∉ts){c:Nat}(v:Value):KT ts w (w.setCell ⟨gt,c,none⟩ v):=by
 obtain⟨vs,h1,h2,h3⟩:=h.row;obtain⟨cur,hb⟩:=own_box h2;exact KT.refl.setCell hb hi v
theorem TkM.made(h:w.ownsRow B 23 1 (.slice (some ⟨gt,0,none⟩) n n) n (List.replicate n (.slice none 0 0))):TkM W w B gt n (tkL n []):=by
 refine⟨tkL_len,_,List.length_replicate ..,h,fun k v hv=>?_⟩;rw[List.getElem?_replicate]at hv;split at hv
 · cases hv
   have:(tkL n []).getD k []=[]:=by
    unfold tkL;simp only[List.foldl_nil,List.getD,List.getElem?_replicate];split<;>rfl
   rw[this];exact⟨none,0,rfl,by simp[Len],Nr _,fun i x hx=>by cases hx⟩
 · cases hv
end
theorem BL_alloc(w:World)(o:Obj):Below w.heap.size w (w.alloc o):=(Br _ _).alloc (Nr _) _
section
variable {n:Nat} {s:List Bool×List Int} {v:Int}
theorem addO_sum(hl:s.1.length=n)(h0:0≤v)(h1:v<n):(addO s v).2.length+(addO s v).1.count false=s.2.length+s.1.count false:=by
 unfold addO;split
 · rfl
 · rename_i hs
   have:=countN_set (l:=s.1) (i:=v.toNat) (by simpa using hs) ZO;simp only[List.length_append,List.length_singleton];omega
theorem addR_sum:∀{l:List Int} {s:List Bool×List Int},NeedS n s→(∀v∈l,0≤v∧v<n)→(addR s l).2.length+(addR s l).1.count false=s.2.length+s.1.count false
 |[],_,_,_=>rfl
 |v::l,s,hs,hl=>by
  have hv:=hl v (List.mem_cons_self ..);show(addR (addO s v) l).2.length+(addR (addO s v) l).1.count false=_;rw[addR_sum (hs.one hv.1 hv.2) fun u hu=>hl u (List.mem_cons_of_mem _ hu),addO_sum hs.len hv.1 hv.2]
end
set_option maxHeartbeats 16000000 in
theorem needed_calls{W w:World}{fv:Value}{F:PFunc}(hF:FnV W W.heap.size fv F)(hW:Below W.heap.size W w)(hT:typedP F=true)(hO:onceB F=true) :
 Calls Tryz.prog 32 #[fv] w fun e w'=>∃g,e=.returned (.slice (some ⟨g,0,none⟩) F.vars.length F.vars.length)∧w'.ownsRow w.heap.size 4 1 (.slice (some ⟨g,0,none⟩) F.vars.length F.vars.length) F.vars.length ((ndL F).map Value.bool)∧Below w.heap.size w w':=by
 obtain⟨A0,c0,A1,c1,A2,c2,rfl,l0,l1,l2,-,-,-,r0,r1,r2⟩:=id hF.open_;obtain⟨n1,n2⟩:=shaped_count (typed_shaped hT);have nv:=typed_vars hT;have HT:=Lh hT;have HO:=Lh hO;have HR:=Lh (rngF_of hT);clear hT hO hF r0 r1;unfold Len at *;have hWs:=hW.size;have hb0:=(Br w.heap.size w).alloc (Nr _) (.cells #[.slice A0 F.vars.length c0,.slice A1 F.params.length c1,.slice A2 F.blocks.length c2] 26);obtain⟨ib,hib,hz0,hz1,hz2⟩:=info_parts Tryz.info23;obtain⟨jb,hjb,y0,y1,y2⟩:=info_parts Tryz.info4;go_enter Tryz.func32,Tryz.ntmps32
 go_upto_region 2 with(
  at_make;refine wpList_make_full _ rfl _ _ 87 rfl (w.heap.size+1) 23 ib _ 1 Tryz.underlying87 hib hz0 hz1 _ _ _ _ _ rfl rfl rfl rfl (by rw[hz2];omega) (by unfold maxLen;omega) ZS ?_;intro w1 hs1 hg1
  have ht1:TkM W w1 (w.heap.size+1) (w.heap.size+1) F.vars.length (tkL F.vars.length []):=TkM.made (by simpa[Value.cells,toList_madeCells_one]using hs1);have hb1:Below (w.heap.size+1) (w.alloc (.cells #[.slice A0 F.vars.length c0,.slice A1 F.params.length c1,.slice A2 F.blocks.length c2] 26)) w1:=(Br _ _).grown hg1 ZS (fun k hk=>by cases hk);have hX1:=box3 hb1
  clear hs1 hg1)
 obtain⟨q,q0,q1,q2⟩:=hX1;have hs1:=hb1.size;simp only[World.size_alloc]at hs1
 go_wp2_with(
  at_make;refine wpList_make_full _ rfl _ _ 37 rfl (w.heap.size+1) 4 jb _ 1 Tryz.underlying37 hjb y0 y1 _ _ _ _ _ rfl rfl rfl rfl (by rw[y2];omega) (by unfold maxLen;omega) ZO ?_;intro w2 hs2 hg2
  have ho2:w2.ownsRow (w.heap.size+1) 4 1 (.slice (some ⟨w1.heap.size,0,none⟩) F.vars.length F.vars.length) F.vars.length ((List.replicate F.vars.length false).map Value.bool):=by simpa[Value.cells,toList_madeCells_one]using hs2
  have hb2:Below w1.heap.size w1 w2:=(Br _ _).grown hg2 (Nr _) (fun k hk=>by cases hk);have q0':=(hb2.cell (p:=⟨w.heap.size,0,none⟩) q).trans q0;have q1':=(hb2.cell (p:=⟨w.heap.size,1,none⟩) q).trans q1;have q2':=(hb2.cell (p:=⟨w.heap.size,2,none⟩) q).trans q2;have q':w.heap.size<w2.heap.size:=by have:=hb2.size;omega
  clear hs2 hg2)
 have hz2':=hb2.size;have hM0:NeedM (w2.alloc (.cells #[.slice (some ⟨w1.heap.size,0,none⟩) F.vars.length F.vars.length,.slice none 0 0] 107)) (w.heap.size+1) w2.heap.size w1.heap.size F.vars.length (initS F.vars.length (F.blocks.take 0)):=
  ⟨ZO,⟨_,BoxAt.new _ _ _,QRow.nil⟩,own_below ho2 ((Br _ _).alloc (Nr _) _)⟩
 have hT0:TkM W (w2.alloc (.cells #[.slice (some ⟨w1.heap.size,0,none⟩) F.vars.length F.vars.length,.slice none 0 0] 107)) (w.heap.size+1) (w.heap.size+1) F.vars.length (tkL F.vars.length (fnIt (F.blocks.take 0))):=(ht1.below hb2).below ((Br _ _).alloc (Nr _) _);have hbA:Below (w.heap.size+1) (w.alloc (.cells #[.slice A0 F.vars.length c0,.slice A1 F.params.length c1,.slice A2 F.blocks.length c2] 26)) (w2.alloc (.cells #[.slice (some ⟨w1.heap.size,0,none⟩) F.vars.length F.vars.length,.slice none 0 0] 107)):=hb1.trans ((hb2.mono hs1).alloc ZO _);generalize (w2.alloc (.cells #[.slice (some ⟨w1.heap.size,0,none⟩) F.vars.length F.vars.length,.slice none 0 0] 107))=wa at *;clear ht1 ho2 hb1 hb2 q q0 q1 q2 q' q0' q1' q2' hz2' hs1 hib hz0 hz1 hz2 hjb y0 y1 y2;generalize w1.heap.size=gi at *;generalize w2.heap.size=nb at *
 go_loopw[25] (fun i wr=>∃n:Nat,i=.int .i64 n∧n≤F.blocks.length∧TkM W wr (w.heap.size+1) (w.heap.size+1) F.vars.length (tkL F.vars.length (fnIt (F.blocks.take n)))∧NeedM wr (w.heap.size+1) nb gi F.vars.length (initS F.vars.length (F.blocks.take n))∧Below (w.heap.size+1) (w.alloc (.cells #[.slice A0 F.vars.length c0,.slice A1 F.params.length c1,.slice A2 F.blocks.length c2] 26)) wr) (fun i _=>F.blocks.length-(intOf i).toNat)
 case atStart=>exact⟨0,rfl,Nz _,hT0,hM0,hbA⟩
 case round=>as_aux_lemma=>
  clear hT0 hM0 hbA;obtain⟨n,rfl,hn,hTk,hNd,hb⟩:=hrel;have hB:=hb0.trans (hb.mono (Nat.le_succ _));have hWr:Below W.heap.size W wr:=hW.trans (hB.mono hWs);have hws:w.heap.size+1≤wr.heap.size:=by have:=hb.size;simpa using this
  by_cases hlt:n<F.blocks.length
  · as_aux_lemma=>
    obtain⟨bb,off,A3,c3,A4,c4,rfl,hbb,hnz,hy0,hy1,hy2,hy3,hy4,hy5,hy6,l3,l4,k3,k4,r3,r4⟩:=r2.blk hWr hlt;have HPH:=Lh (fun k (hk:k<(F.blk n).phis.length)=>typed_phi HT.out hlt hk);have HIN:=Lh (fun k (hk:k<(F.blk n).insts.length)=>inst_op ((shaped_blk (typed_shaped HT.out) hlt).2.1 _ (mem_of_Inst hk)));have HRG:=Lh (fun k (hk:k<(F.blk n).insts.length)=>HR.out.ins _ (mem_of_blk hlt) _ (mem_of_Inst hk));have HRD:=Lh (fun k (hk:k<(F.blk n).insts.length) (hs:staysI ((F.blk n).inst k)=false)=>(HR.out.it (((F.blk n).inst k).dst,((F.blk n).inst k).args) (List.mem_flatMap.2 ⟨_,mem_of_blk hlt,List.mem_append_right _ (List.mem_map.2 ⟨_,List.mem_filter.2 ⟨mem_of_Inst hk,by simp[hs]⟩,rfl⟩)⟩)).1);have HTM:=Lh (fun h=>typed_term HT.out hlt h);unfold Len at l3 l4;obtain⟨wq,rfl⟩:∃wq:World,wq=wr:=⟨_,rfl⟩;go_wp2;clear hy0 hy1 hy2 hy3 hy4 hy5 hy6 hnz
    go_loopw[32] (fun i wr=>∃k:Nat,i=.int .i64 k∧k≤(F.blk n).phis.length∧Below (w.heap.size+1) wq wr∧BoxAt wr wq.heap.size #[.string (F.blk n).name,.slice A3 (F.blk n).phis.length c3,.slice A4 (F.blk n).insts.length c4,.int .i64 (F.blk n).term.kind,.int .i64 (F.blk n).term.var,.int .i64 (F.blk n).term.t0,.int .i64 (F.blk n).term.t1] 46∧TkM W wr (w.heap.size+1) (w.heap.size+1) F.vars.length (tkP F n k)∧NeedM wr (w.heap.size+1) nb gi F.vars.length (initS F.vars.length (F.blocks.take n))) (fun i _=>(F.blk n).phis.length-(intOf i).toNat)
    case atStart=>exact⟨0,rfl,Nz _,(Br _ _).alloc hws _,BoxAt.new _ _ _,by rw[tkP_zero];exact hTk.below BL,hNd.below BL⟩
    case round=>as_aux_lemma=>
     clear hTk hNd;obtain⟨k,rfl,hk,hbk,hX,hTk,hNd⟩:=hrel;have hbr:=hb.trans hbk;have hBr:=hB.trans (hbk.mono (Nat.le_succ _));have hWi:Below W.heap.size W wr:=hW.trans (hBr.mono hWs)
     by_cases hkl:k<(F.blk n).phis.length
     · as_aux_lemma=>
       obtain⟨bp,op,A6,c6,A7,c7,rfl,hbp,hp0,hp1,hp2,l6,l7,k6,k7,r6,-⟩:=r3.phi hWi hkl;obtain⟨-,⟨d0,d1⟩,-⟩:=HPH.out k hkl;have HS:=Lh (tkP_succ (F:=F) (n:=n) hkl);obtain⟨c,hc⟩:∃c:Nat,((F.blk n).phi k).dst=(c:Int):=⟨((F.blk n).phi k).dst.toNat,ZO⟩;rw[hc,Int.toNat_natCast]at HS;rw[hc]at hp0 d1;have hcl:c<F.vars.length:=by omega
       obtain⟨u,hu,-⟩:=hTk.at_ hcl;have hgl:=hTk.blk.2;have hfz:=hTk.frozen (c:=c);have hxg:w.heap.size+1≠wq.heap.size:=by
        have:=hX.lt;intro e;rw[← e]at hX;exact(hTk.ktSet (ts:=[46]) ZS (c:=0) (.bool true)).blk (w.heap.size+1) ⟨_,_,hX,ZS⟩ |> fun h=>by
         have h2:=(hX.set 0 (.bool true));unfold BoxAt at h2 hX;rw[h2,hX]at h;cases h
       have HV:=Lh (show SInts W W.heap.size (.slice A6 ((F.blk n).phi k).args.length c6) ((F.blk n).phi k).args from⟨_,_,rfl,l6,k6,r6⟩);have HTK:=Lh hTk;have HND:=Lh hNd;have HX:=Lh hX;clear hTk hNd hX r6;unfold Len at l6 l7;go_wp2;go_roundw
       case rel=>
        have ht1:=HTK.out.put HV.out hcl;refine⟨k+1,ZN,ZO,(hbk.setCell (p:=⟨w.heap.size+1,c,none⟩) (Nr _) _).alloc (by have:=hBr.size;simp;omega) _,(HX.out.other hxg _).alloc _,?_,(HND.out.kt (HTK.out.ktSet ZS _)).below (BL_alloc _ _)⟩;rw[HS.out];exact ht1.below (BL_alloc _ _)
       case measure=>simp[intOf];omega
     · as_aux_lemma=>
       obtain rfl:k=(F.blk n).phis.length:=by omega
       have hx0:=hX.cell 2;have hxl:=hX.lt;replace hx0:wr.cell? ⟨wq.heap.size,2,none⟩=some (.slice A4 (F.blk n).insts.length c4):=hx0;rw[tkP_end]at hTk;clear HPH;obtain⟨wp,rfl⟩:∃wp:World,wp=wr:=⟨_,rfl⟩;go_wp2;clear hx0 hxl
       go_loopw[46] (fun i wr=>∃k:Nat,i=.int .i64 k∧k≤(F.blk n).insts.length∧Below (w.heap.size+1) wq wr∧BoxAt wr wq.heap.size #[.string (F.blk n).name,.slice A3 (F.blk n).phis.length c3,.slice A4 (F.blk n).insts.length c4,.int .i64 (F.blk n).term.kind,.int .i64 (F.blk n).term.var,.int .i64 (F.blk n).term.t0,.int .i64 (F.blk n).term.t1] 46∧TkM W wr (w.heap.size+1) (w.heap.size+1) F.vars.length (tkI F n k)∧NeedM wr (w.heap.size+1) nb gi F.vars.length (((F.blk n).insts.take k).foldl stI (initS F.vars.length (F.blocks.take n)))) (fun i _=>(F.blk n).insts.length-(intOf i).toNat)
       case atStart=>exact⟨0,rfl,Nz _,hbk,hX,hTk,hNd⟩
       case round=>as_aux_lemma=>
        clear hWi hBr hbr hbk hX hTk hNd hk;obtain⟨k,rfl,hk,hbk,hX,hTk,hNd⟩:=hrel;have hbr:=hb.trans hbk;have hBr:=hB.trans (hbk.mono (Nat.le_succ _));have hWi:Below W.heap.size W wr:=hW.trans (hBr.mono hWs);have hIni:=ini_in (k:=k) HR.out hlt;have hxg:w.heap.size+1≠wq.heap.size:=by
         have:=hX.lt;intro e;rw[← e]at hX;exact(hTk.ktSet (ts:=[46]) ZS (c:=0) (.bool true)).blk (w.heap.size+1) ⟨_,_,hX,ZS⟩ |> fun h=>by
          have h2:=(hX.set 0 (.bool true));unfold BoxAt at h2 hX;rw[h2,hX]at h;cases h
        by_cases hkl:k<(F.blk n).insts.length
        · as_aux_lemma=>
          obtain⟨bp,op,A6,c6,rfl,hbp,hp0,hp1,hp2,hp3,l6,k6,r6⟩:=r4.inst hWi hkl;obtain⟨o0,o1⟩:=HIN.out k hkl;have HSS:=Lh (insS_succ (s:=initS F.vars.length (F.blocks.take n)) hkl);obtain⟨o,ho⟩:∃o:Nat,((F.blk n).inst k).op=(o:Int):=⟨((F.blk n).inst k).op.toNat,ZO⟩;have hst:staysI ((F.blk n).inst k)=staysB o:=by unfold staysI;rw[ho,Int.toNat_natCast]
          rw[ho]at hp0;have ho27:o<27:=by omega
          cases hsb:staysB o
          · as_aux_lemma=>
            rw[hsb]at hst;have HS:=Lh (tkI_succ (F:=F) (n:=n) hkl hst);rw[stI,if_neg (by rw[hst];decide)]at HSS;obtain⟨d0,d1⟩:=HRD.out k hkl hst;obtain⟨c,hc⟩:∃c:Nat,((F.blk n).inst k).dst=(c:Int):=⟨((F.blk n).inst k).dst.toNat,ZO⟩;rw[hc,Int.toNat_natCast]at HS;rw[hc]at hp1 d1;have hcl:c<F.vars.length:=by omega
            have hso:=fun w=>staysO_calls (w:=w) o ho27
            rw[hsb]at hso;have HV:=Lh (show SInts W W.heap.size (.slice A6 ((F.blk n).inst k).args.length c6) ((F.blk n).inst k).args from⟨_,_,rfl,l6,k6,r6⟩);have hbx:=BL_alloc wr (.cells #[.int .i64 (o:Int),.int .i64 (c:Int),.slice A6 ((F.blk n).inst k).args.length c6,.int .i64 ((F.blk n).inst k).num] 49);have hxx:=BoxAt.new wr #[.int .i64 (o:Int),.int .i64 (c:Int),.slice A6 ((F.blk n).inst k).args.length c6,.int .i64 ((F.blk n).inst k).num] 49;have HTK:=Lh (hTk.below hbx);have HND:=Lh (hNd.below hbx);have HX:=Lh (hX.below hbx hX.lt);have HBX:=Lh hbx;have HXX:=Lh hxx;clear hTk hNd hX r6 hsb hst hc hbx hxx hIni;unfold Len at l6;go_wp2_with fail;refine(hso _).mono ?_;rintro e w9 ⟨rfl,hb9⟩;have hx9:=HXX.out.below hb9 HXX.out.lt;have hT9:=HTK.out.below hb9;have c1:=hx9.cell 1;have c2:=hx9.cell 2;have cl:=hx9.lt;simp at c1 c2;obtain⟨u,hu,-⟩:=hT9.at_ hcl;have hgl:=hT9.blk.2;have hfz:=hT9.frozen (c:=c);have HT9:=Lh hT9;have HB9:=Lh hb9;clear hx9 hT9 hb9 hp0 hp1 hp2 hp3 hso;go_wp2;go_roundw
            case rel=>
             have hs1:=hBr.size;have hs2:=HBX.out.size;have hs3:=hbk.size;refine⟨k+1,ZN,ZO,((hbk.trans (HBX.out.mono ZO)).trans (HB9.out.mono ZO)).setCell (Nr _) _,(HX.out.below HB9.out HX.out.lt).other hxg _,?_,?_⟩
             · rw[HS.out]
               exact HT9.out.put HV.out hcl
             · rw[HSS.out]
               exact(HND.out.below HB9.out).kt (HT9.out.ktSet ZS _)
            case measure=>simp[intOf];omega
          · as_aux_lemma=>
            rw[hsb]at hst;have HS:=Lh (tkI_stays (F:=F) (n:=n) hkl hst);rw[stI,if_pos hst]at HSS;have hso:=fun w=>staysO_calls (w:=w) o ho27
            rw[hsb]at hso;have hbx:=BL_alloc wr (.cells #[.int .i64 (o:Int),.int .i64 ((F.blk n).inst k).dst,.slice A6 ((F.blk n).inst k).args.length c6,.int .i64 ((F.blk n).inst k).num] 49);have hxx:=BoxAt.new wr #[.int .i64 (o:Int),.int .i64 ((F.blk n).inst k).dst,.slice A6 ((F.blk n).inst k).args.length c6,.int .i64 ((F.blk n).inst k).num] 49;have HTK:=Lh (hTk.below hbx);have HND:=Lh (hNd.below hbx);have HX:=Lh (hX.below hbx hX.lt);have HBX:=Lh hbx;have HXX:=Lh hxx;have HAD:=Lh (fun(w':World) (h:Below W.heap.size W w') (hM:NeedM w' (w.heap.size+1) nb gi F.vars.length (((F.blk n).insts.take k).foldl stI (initS F.vars.length (F.blocks.take n))))=>add_calls (c:=c6) r6 h (Nat.le_succ_of_le hWs) hM hIni.ns ZO l6 (HRG.out k hkl));have HWI:=Lh hWi;clear hTk hNd hX r6 hsb hst hbx hxx hIni hWi;unfold Len at l6;go_wp2_with fail;refine(hso _).mono ?_;rintro e w9 ⟨rfl,hb9⟩;have hx9:=HXX.out.below hb9 HXX.out.lt;have c1:=hx9.cell 1;have c2:=hx9.cell 2;have cl:=hx9.lt;simp at c1 c2;have HB9:=Lh hb9;clear hx9 hb9 hp0 hp1 hp2 hp3 hso;go_wp2_with fail;refine(HAD.out _ (HWI.out.trans ((HBX.out.trans (HB9.out.mono HBX.out.size)).mono HWI.out.size)) (HND.out.below HB9.out)).mono ?_;rintro e w8 ⟨⟨v8,rfl⟩,hN8,hk8,hb8⟩;have HN8:=Lh hN8;have HK8:=Lh hk8;have HB8:=Lh hb8;clear hN8 hk8 hb8;go_wp2;go_roundw
            case rel=>
             have hs1:=hBr.size;have hs2:=HBX.out.size;have hs3:=hbk.size;refine⟨k+1,ZN,ZO,((hbk.trans (HBX.out.mono ZO)).trans (HB9.out.mono ZO)).trans HB8.out,?_,?_,?_⟩
             · exact(HK8.out.blk wq.heap.size ⟨_,_,HX.out.below HB9.out HX.out.lt,ZS⟩).trans (HX.out.below HB9.out HX.out.lt)
             · rw[HS.out]
               exact(HTK.out.below HB9.out).kt HK8.out ZS
             · rw[HSS.out]
               exact HN8.out
            case measure=>simp[intOf];omega
        · as_aux_lemma=>
          obtain rfl:k=(F.blk n).insts.length:=by omega
          have HSS:=Lh (initS_succ (m:=F.vars.length) hlt);have HS:=Lh (tkI_end hlt);rw[List.take_length]at hNd hIni;have x3:=hX.cell 3;have x4:=hX.cell 4;have xl:=hX.lt;replace x3:wr.cell? ⟨wq.heap.size,3,none⟩=some (.int .i64 (F.blk n).term.kind):=x3;replace x4:wr.cell? ⟨wq.heap.size,4,none⟩=some (.int .i64 (F.blk n).term.var):=x4
          by_cases hk0:(F.blk n).term.kind=0
          · as_aux_lemma=>
            rw[stT,if_pos hk0]at HSS;have hz:((F.blk n).term.kind !=0)=false:=by simp[hk0]
            clear hk0;go_wp2;go_roundw
            case rel=>exact⟨n+1,ZN,ZO,by rw[← HS.out];exact hTk,by rw[HSS.out];exact hNd,hbr⟩
            case measure=>simp[intOf];omega
          · as_aux_lemma=>
            rw[stT,if_neg hk0]at HSS;obtain⟨v0,v1⟩:=HTM.out hk0;have hz:((F.blk n).term.kind !=0)=true:=by simp[hk0]
            have hbx:=BL_alloc wr (.cells #[.int .i64 (F.blk n).term.var] 3);have hxx:=BoxAt.new wr #[.int .i64 (F.blk n).term.var] 3;have hc0:=hxx.cell 0;simp only[List.getElem?_toArray,List.getElem?_cons_zero]at hc0;have hA1:=add1_calls (c:=1) hxx.lt hc0 (hNd.below hbx) hIni.ns ZO v0 v1;have HTK:=Lh (hTk.below hbx);clear hk0 hTk hNd hX hIni hxx hc0;go_wp2_with fail;refine hA1.mono ?_;rintro e w8 ⟨⟨v8,rfl⟩,hN8,hk8,hb8⟩;have HN8:=Lh hN8;have HK8:=Lh hk8;have HB8:=Lh hb8;clear hN8 hk8 hb8 hA1;go_wp2;go_roundw
            case rel=>
             have hs3:=hbk.size;exact⟨n+1,ZN,ZO,by rw[← HS.out];exact HTK.out.kt HK8.out ZS,by rw[HSS.out];exact HN8.out,(hbr.trans (hbx.mono ZO)).trans HB8.out⟩
            case measure=>simp[intOf];omega
  · as_aux_lemma=>
    obtain rfl:n=F.blocks.length:=by omega
    rw[List.take_length]at hTk hNd;have HI0:=Lh (init_inv HR.out);have hle:=(init_inv HR.out).ns.cnt;go_wp2
    go_loopg[11] (F.vars.length) (fun gk _ wr=>∃s,Hid (NdInv F s∧s.2.length+s.1.count false≤gk)∧TkM W wr (w.heap.size+1) (w.heap.size+1) F.vars.length (tkL F.vars.length (fnIt F.blocks))∧NeedM wr (w.heap.size+1) nb gi F.vars.length s∧Below (w.heap.size+1) (w.alloc (.cells #[.slice A0 F.vars.length c0,.slice A1 F.params.length c1,.slice A2 F.blocks.length c2] 26)) wr)
    case atStart=>exact⟨_,⟨HI0.out,hle⟩,hTk,hNd,hb⟩
    case round=>as_aux_lemma=>
     clear hTk hNd hb HI0 hle hB hWr hws;obtain⟨⟨is,nx⟩,HD,hTk,hNd,hb⟩:=hrel;have hB:=hb0.trans (hb.mono (Nat.le_succ _));have hWr:Below W.heap.size W wr:=hW.trans (hB.mono hWs);obtain⟨v,hx,hq⟩:=hNd.box;have hbase:=hNd.base;have hrow:=hNd.row;have x0:=hx.cell 0;have x1:=hx.cell 1;have xf:=hx.frozen 1;have xl:=hx.lt;simp at x0 x1
     match nx,HD,hq,hNd with
     |[],HD,hq,hNd=>as_aux_lemma=>
      obtain⟨X,cq,rfl⟩:=hq.form;have HF:=Lh (HD.out.1.fin HO.out HR.out);have HROW:=Lh hrow;clear hrow hNd hq hTk hx;go_wp2;go_ret;rw[← HF.out];exact⟨_,rfl,own_base HROW.out (Nat.le_succ _),hB⟩
     |x::r,HD,hq,hNd=>as_aux_lemma=>
      obtain⟨x0',x1',-⟩:=HD.out.1.rng x (List.mem_cons_self ..);obtain⟨xn,rfl⟩:=Int.eq_ofNat_of_zero_le x0';have hxn:xn<F.vars.length:=by omega
      have HP:=Lh (HD.out.1.pop HR.out);have hcn:=HD.out.2
      have hns:NeedS F.vars.length (is,r):=⟨HD.out.1.ns.len,by
       have:=HD.out.1.ns.cnt;simp only[List.length_cons]at this;show r.length+is.count false≤_
       omega⟩
      have hrg:=HR.out.tk (v:=xn);have hgk:gk-1<gk:=by simp only[List.length_cons]at hcn;omega
      have HSM:=Lh (show(addR (is,r) ((tkL F.vars.length (fnIt F.blocks)).getD xn [])).2.length+(addR (is,r) ((tkL F.vars.length (fnIt F.blocks)).getD xn [])).1.count false≤gk-1 by
       rw[addR_sum hns hrg];simp only[List.length_cons]at hcn;show r.length+is.count false≤_
       omega)
      obtain⟨g,off,c,rfl,hrc,hcm,hgl,hxc⟩:=hq.first;have hq2:=hq.tail;obtain⟨u,hu,A6,c6,rfl,l6,k6,r6⟩:=hTk.at_ hxn;generalize (tkL F.vars.length (fnIt F.blocks)).getD xn []=L at *;have hgt:=hTk.blk.2;obtain⟨T,hT⟩:∃T:Option Addr,T=(if c=1 then some ⟨g,off,none⟩ else some ⟨g,off+1,none⟩):=⟨_,rfl⟩;rw[← hT]at hq2;have HTT:=Lh hT;have hM2:NeedM (wr.setCell ⟨nb,1,none⟩ (.slice T r.length (c-1))) (w.heap.size+1) nb gi F.vars.length (is,r):=by
       refine⟨hbase,⟨.slice T r.length (c-1),by simpa using hx.set 1 (.slice T r.length (c-1)),?_⟩,?_⟩
       · exact hq2.turn fun k' _ hn'=>heap_set (fun e=>by
          obtain⟨cs,t,h1,h2⟩:=hn';simp at h2 e;rw[e]at h1;unfold BoxAt at hx;rw[hx]at h1;cases h1
          cases h2)
       · exact ownsRow_setCell_other hrow (fun e=>by
          simp only[Value.ownBlock,Option.some.injEq]at e;subst e;rcases hrow.2 with⟨h,-⟩|⟨g',cap,cur,h,-,hh,-⟩
          · cases h
          · cases h
            unfold BoxAt at hx;rw[hh]at hx
            cases hx) _
      have hA:=add_calls (c:=c6) r6 (hWr.setCell (p:=⟨nb,1,none⟩) (by simp only;omega) (.slice T r.length (c-1))) (Nat.le_succ_of_le hWs) hM2 hns ZO l6 hrg;have hne:w.heap.size+1≠nb:=by
       intro e;rw[← e]at hx;obtain⟨vs,-,h2,-⟩:=hTk.row;obtain⟨cur,hb2⟩:=own_box h2;unfold BoxAt at hx hb2;rw[hx]at hb2;cases hb2
      have hne2:nb≠w.heap.size+1:=fun e=>hne e.symm
      have hu2:(wr.setCell ⟨nb,1,none⟩ (.slice T r.length (c-1))).cell? ⟨w.heap.size+1,xn,none⟩=some (.slice A6 L.length c6):=by
       rw[World.cell?_setCell_other _ _ _ _ (by intro h;simp only[Addr.mk.injEq]at h;exact hne2 h.1)];exact hu
      have HTK:=Lh (hTk.kt (KT.refl.setCell (ts:=[23]) hx ZS (.slice T r.length (c-1)) (j:=1)) ZS);have hbS:=hb.setCell (p:=⟨nb,1,none⟩) hbase (.slice T r.length (c-1));unfold Len at l6;clear hq hq2 hNd hx hM2 hT hns hrg hTk hrow r6 hWr hb;rcases(show(c=1∧T=some ⟨g,off,none⟩)∨(c≠1∧T=some ⟨g,off+1,none⟩) by rw[HTT.out];by_cases h:c=1<;>simp[h])with⟨hc1,hT1⟩|⟨hc1,hT1⟩
      all_goals
       as_aux_lemma=>
       clear HTT;subst hT1;(try(subst hc1;obtain rfl:r=[]:=List.eq_nil_of_length_eq_zero ZO));go_wp2_with fail;refine hA.mono ?_;rintro e w8 ⟨⟨v8,rfl⟩,hN8,hk8,hb8⟩;have HN8:=Lh hN8;have HK8:=Lh hk8;have HB8:=Lh hb8;clear hN8 hk8 hb8 hA;go_wp2
       go_roundg (gk-1)
       case measure=>exact hgk
       case rel=>exact⟨_,⟨HP.out,HSM.out⟩,HTK.out.kt HK8.out ZS,HN8.out,hbS.trans HB8.out⟩
end Go.Proofs.YtkfobmdodegigaaGreatDoor
