/- A row of rows of numbers that the call makes: each row its own block. -/
import Derived.Test.YtjlclkcmfokobaaGreatDoorOrderZ
namespace Go.Proofs.YtjlclkcmfokobaaGreatDoor
open Go.RowKit
section
variable {P:Program}
theorem YfD(w:World){ops:Array Oper}{rest:List Oper}{o:Oper}{a:Act}{Q:Exit→Act→World→Prop}(hgd:o.guard=none)(s x:Operand)(t:TypeId)
 (ho:o.op=.call { callee:=.builtin .append,args:=#[s,x],argTypes:=#[t,t] })
 (base:Nat) (e:TypeId) (bytes:Nat) (ht:P.underlying t=some (.slice e)) {z:Value} (hinf:(P.info? e).map (fun i=>(i.zero,i.size,i.bytes))=some (some z,1,bytes)) (hz1:z.cells.size=1)
 (v:Value) (n:Nat) (xs:List Value) (hs:a.eval s=v) (hown:w.ownsRow base e 1 v n xs)
 (N:Nat) (hN:w.heap.size=N) (u:Value) (hx:a.eval x=.slice (some ⟨N,0,none⟩) 1 1) (h1:u.oneCell'=true)
 (h63:n<1048576) (hby:bytes≤64) (hbase:base≤w.heap.size)
 (h:∀v' w',w'.ownsRow base e 1 v' (n+1) (xs++[u])→(w.alloc (.cells #[u] e)).grownBy w' v.ownBlock→(∀k,v'.ownBlock=some k→v.ownBlock=some k∨w.heap.size<k)→wpList P ops Q rest (a.put o.dst v') w') :
 wpList P ops Q (o::rest) a (w.alloc (.cells #[u] e)):=by
 subst hN;obtain⟨i,hi,hz,hsz,hb⟩:=info_parts hinf;have hown':=hown.alloc (.cells #[u] e);have hnews:=Ye3 w u e;have hbytes:(n+1)*bytes≤140737488355328:=by
  calc(n+1)*bytes≤1048576*64:=Nat.mul_le_mul ZO hby
   _≤140737488355328:=by decide
 obtain⟨v',w',hr,h2,h3,-⟩:=run_append_own (P:=P) (w.alloc (.cells #[u] e)) base t o.type e i z 1 bytes ht hi hz hsz hb hz1 ZD v n xs hown' ⟨w.heap.size,0,none⟩ 1 1 [u] rfl hnews (by simpa using h1) (by unfold maxLen;omega) hbytes ZX;have h4:∀k,v'.ownBlock=some k→v.ownBlock=some k∨w.heap.size<k:=by
  rcases hown'.2 with⟨rfl,rfl⟩|⟨g,cap,cur,rfl,hbg,hg,hnc,hcm,hcs,htake⟩
  · have hr2:=run_append_nil (P:=P) (w.alloc (.cells #[u] e)) t o.type e i z ht hi hz ⟨w.heap.size,0,none⟩ 1 1 [u] (by rw[hsz];rfl) hnews ZD ZD (by rw[hb];omega)
    rw[hr2]at hr;injection hr with e1 e2
    intro k hk;rw[← e1]at hk;simp only[Value.ownBlock,Option.some.injEq]at hk;right;rw[← hk];simp
  · by_cases hroom:n+1≤cap
    · obtain⟨w2,hr2,-,-⟩:=run_append_fits (P:=P) (w.alloc (.cells #[u] e)) base t o.type e i 1 ht hi hsz g n cap xs hown' ⟨w.heap.size,0,none⟩ 1 1 [u] rfl hnews (by simpa using h1) hroom
      rw[hr2]at hr;injection hr with e1 e2
      intro k hk;rw[← e1]at hk;exact .inl hk
    · have holds:∀j u',xs[j]?=some u'→(w.alloc (.cells #[u] e)).cell? ((⟨g,0,none⟩:Addr).add j)=some u':=hown'.cells (g:=g) rfl
      have hr2:=run_append_grow (P:=P) (w.alloc (.cells #[u] e)) t o.type e i z ht hi hz ⟨g,0,none⟩ n cap xs (by rw[hsz];exact hown'.1) holds ⟨w.heap.size,0,none⟩ 1 1 [u] (by rw[hsz];rfl) hnews ZO ZO (growslice_fits ZO (by rw[hb];exact hbytes));rw[hr2]at hr;injection hr with e1 e2
      intro k hk;rw[← e1]at hk;simp only[Value.ownBlock,Option.some.injEq]at hk;right;rw[← hk];simp
 refine wpList_plain hgd fun _ hK=>?_
 unfold Oper.wp execOp;simp only[ho,resolve,invoke,builtin,Sem.run_bind,Sem.run_pure,Result.andThen_ok,List.map_toArray,List.map_cons,List.map_nil,hs,hx,hr];exact hK _ _ (h v' w' h2 (by simpa using h3) h4)
end
def OwnRows(w:World)(base:Nat)(ti te:TypeId)(g:Nat)(av:Nat→Prop)(xss:List (List Int)):Prop:=
 ∃vs:List Value,vs.length=xss.length∧w.ownsRow base ti 1 (.slice (some ⟨g,0,none⟩) xss.length xss.length) xss.length vs∧
  (∀(i:Nat) (v:Value) (xs:List Int),vs[i]?=some v→xss[i]?=some xs→w.ownsRow base te 1 v xs.length (xs.map (Value.int .i64)))∧
  (∀(i j:Nat) (vi vj:Value) (b:Nat),i≠j→vs[i]?=some vi→vs[j]?=some vj→vi.ownBlock=some b→vj.ownBlock≠some b)∧
  ∀(i:Nat) (v:Value) (b:Nat),vs[i]?=some v→v.ownBlock=some b→¬av b
theorem OwnRows.below{w w':World}{base g:Nat}{ti te:TypeId}{av:Nat→Prop}{xss:List (List Int)}(h:OwnRows w base ti te g av xss)(hb:Below w.heap.size w w'):OwnRows w' base ti te g av xss:=by
 obtain⟨vs,h1,h2,h3,h4,h5⟩:=h;exact⟨vs,h1,Yu h2 hb,fun i v xs hv hx=>Yu (h3 i v xs hv hx) hb,h4,h5⟩
theorem OwnRows.at_{w:World}{base g:Nat}{ti te:TypeId}{av:Nat→Prop}{xss:List (List Int)}(h:OwnRows w base ti te g av xss){c:Nat}(hc:c<xss.length) :
 ∃v,w.cell? ⟨g,c,none⟩=some v∧w.ownsRow base te 1 v (xss.getD c []).length ((xss.getD c []).map (Value.int .i64)):=by
 obtain⟨vs,h1,h2,h3,h4,h5⟩:=h;have hv:vs[c]?=some vs[c]:=List.getElem?_eq_getElem ZO;refine⟨vs[c],?_,h3 c _ _ hv (by simp[hc])⟩;rw[h2.cellAt c ZO];exact hv
theorem OwnRows.step{w w3:World}{base g:Nat}{ti te:TypeId}{av:Nat→Prop}{xss:List (List Int)}(h:OwnRows w base ti te g av xss)(hne:ti≠te){c:Nat}(hc:c<xss.length){v v':Value}{x:Int}{o:Obj}(hv:w.cell? ⟨g,c,none⟩=some v)
 (hown:w3.ownsRow base te 1 v' ((xss.getD c []).length+1) ((xss.getD c []).map (Value.int .i64)++[.int .i64 x])) (hg:(w.alloc o).grownBy w3 v.ownBlock) (hfr:∀k,v'.ownBlock=some k→v.ownBlock=some k∨w.heap.size<k) (hav:∀k,w.heap.size<k→¬av k) :
 OwnRows (w3.setCell ⟨g,c,none⟩ v') base ti te g av (xss.set c ((xss.getD c [])++[x]))∧∀b j,av b→b≠g→b<w.heap.size→(w3.setCell ⟨g,c,none⟩ v').cell? ⟨b,j,none⟩=w.cell? ⟨b,j,none⟩:=by
 obtain⟨vs,h1,h2,h3,h4,h5⟩:=h;have hvc:vs[c]?=some v:=by
  have:=h2.cellAt c ZO;rw[hv]at this;exact this.symm
 have hrow:=h3 c v _ hvc (show xss[c]?=some (xss.getD c []) by simp[hc]);have ha:Below w.heap.size w (w.alloc o):=(Br _ _).alloc (Nr _) _;have hg3:w3.ownsRow base ti 1 (.slice (some ⟨g,0,none⟩) xss.length xss.length) xss.length vs:=
  Yan h2 ha hg (fun b hb=>Y5 h2 hrow hne hb)
 have hst:=(hg3.stored c v').1;refine⟨⟨vs.set c v',by simp[h1],by simpa using hst,fun i vi xs hi hx=>?_,fun i j vi vj b hij hi hj hbi=>?_,fun i vi b hi hbi=>?_⟩,fun b j hb hbg hbl=>?_⟩
 rotate_left 2
 · by_cases hic:c=i
   · subst hic
     rw[List.getElem?_set_self ZO]at hi;simp only[Option.some.injEq]at hi;subst hi;rcases hfr b hbi with hb|hb
     · exact h5 c v b hvc hb
     · exact hav b hb
   · rw[List.getElem?_set_ne hic]at hi
     exact h5 i vi b hi hbi
 · rw[World.cell?_setCell_far _ _ _ _ (by simpa using fun e=>hbg e.symm)]
   have hnb:some b≠v.ownBlock:=fun e=>h5 c v b hvc e.symm hb
   rw[World.cell?_of_block (w:=w.alloc o) (hg.block b ZX hnb)];exact World.cell?_of_block (heap_alloc_old w o hbl)
 · have hgne:∀{vx:Value} {nx:Nat} {xx:List Value},w3.ownsRow base te 1 vx nx xx→vx.ownBlock≠some g:=fun hx=>Y5 hg3 hx hne rfl
   by_cases hic:c=i
   · subst hic
     rw[List.getElem?_set_self ZO]at hi hx;simp only[Option.some.injEq]at hi hx;subst hi hx;refine ownsRow_setCell_other (a:=⟨g,c,none⟩) ?_ (hgne hown) v';simpa using hown
   · rw[List.getElem?_set_ne hic]at hi hx
     have h5x:=h3 i vi xs hi hx;have h6:w3.ownsRow base te 1 vi xs.length (xs.map (Value.int .i64)):=Yan h5x ha hg (fun b hb hb'=>h4 c i v vi b hic hvc hi hb' hb);exact ownsRow_setCell_other (a:=⟨g,c,none⟩) h6 (hgne h6) v'
 · have hlt:∀(k:Nat) (vk:Value),vs[k]?=some vk→vk.ownBlock=some b→b<w.heap.size:=fun k vk hk hb=>by
    have hkl:k<xss.length:=by rw[← h1];exact(List.getElem?_eq_some_iff.1 hk).1
    exact(YG (h3 k vk _ hk (List.getElem?_eq_getElem hkl)) hb).2
   by_cases hic:c=i
   · subst hic
     rw[List.getElem?_set_self ZO]at hi;simp only[Option.some.injEq]at hi;subst hi;rw[List.getElem?_set_ne hij]at hj;intro hbj;rcases hfr b hbi with hb|hb
     · exact h4 c j v vj b hij hvc hj hb hbj
     · have:=hlt j vj hj hbj
       omega
   · rw[List.getElem?_set_ne hic]at hi
     by_cases hjc:c=j
     · subst hjc
       rw[List.getElem?_set_self ZO]at hj;simp only[Option.some.injEq]at hj;subst hj;intro hbj;rcases hfr b hbj with hb|hb
       · exact h4 i c vi v b hij hi hvc hbi hb
       · have:=hlt i vi hi hbi
         omega
     · rw[List.getElem?_set_ne hjc]at hj
       exact h4 i j vi vj b hij hi hj hbi
theorem OwnRows.mid{w w3:World}{base g:Nat}{ti te:TypeId}{av:Nat→Prop}{xss:List (List Int)}(h:OwnRows w base ti te g av xss)(hne:ti≠te){c:Nat}(hc:c<xss.length){v:Value}{o:Obj}(hv:w.cell? ⟨g,c,none⟩=some v)
 (hg:(w.alloc o).grownBy w3 v.ownBlock):w3.cell? ⟨g,c,none⟩=some v∧w3.frozen? ⟨g,c,none⟩=false∧g<w3.heap.size:=by
 obtain⟨vs,h1,h2,h3,h4,h5⟩:=h;have hvc:vs[c]?=some v:=by
  have:=h2.cellAt c ZO;rw[hv]at this;exact this.symm
 have hrow:=h3 c v _ hvc (show xss[c]?=some (xss.getD c []) by simp[hc]);have ha:Below w.heap.size w (w.alloc o):=(Br _ _).alloc (Nr _) _;have hg3:w3.ownsRow base ti 1 (.slice (some ⟨g,0,none⟩) xss.length xss.length) xss.length vs:=
  Yan h2 ha hg (fun b hb=>Y5 h2 hrow hne hb)
 exact⟨(hg3.cellAt c ZO).trans hvc,hg3.frozenAt c,(hg3.lt g rfl).2⟩
def RowC(w:World)(B:Nat)(b o:Nat)(xs:List Int):Prop:=∃v,w.cell? ⟨b,o,none⟩=some v∧SInts w B v xs
def Yej(w:World)(xss:List (List Int))(e:Ending)(w':World):Prop:=
 ∃A c,e=.returned (.slice A xss.length c)∧Len xss.length∧xss.length≤c∧Rd w'.heap.size A xss 1 (RowC w' w'.heap.size)∧Below w.heap.size w w'
theorem OwnRows.ret{w w':World}{base g:Nat}{ti te:TypeId}{av:Nat→Prop}{xss:List (List Int)}(h:OwnRows w' base ti te g av xss)(hb:Below w.heap.size w w')(hn:xss.length≤1048576)(hm:∀xs∈xss,xs.length≤1048576):Yej w xss (.returned (.slice (some ⟨g,0,none⟩) xss.length xss.length)) w':=by
 obtain⟨vs,h1,h2,h3,h4,h5⟩:=h;refine⟨_,_,rfl,by unfold Len;omega,Nr _,fun i xs hx=>?_,hb⟩;have hi:i<xss.length:=(List.getElem?_eq_some_iff.1 hx).1;have hg:=h2.lt g rfl;refine⟨g,0,rfl,hg.2,vs[i],?_,?_⟩
 · have:=h2.cellAt i ZO
   rw[show(0+i*1)=i from ZO,this];exact List.getElem?_eq_getElem ZO
 · have h6:=h3 i vs[i] xs (List.getElem?_eq_getElem ZO) hx
   obtain⟨A,c,hv⟩:=Yp h6;rw[hv]at h6 ⊢;obtain⟨-,hc,hr⟩:=Rd.of_own h6;have:=hm xs (List.mem_of_getElem? hx);exact hr.sints (by unfold Len;omega) hc
theorem OwnRows.made{w:World}{base g n:Nat}{ti te:TypeId}{av:Nat→Prop}(h:w.ownsRow base ti 1 (.slice (some ⟨g,0,none⟩) n n) n (List.replicate n (.slice none 0 0))):OwnRows w base ti te g av (List.replicate n []):=by
 refine⟨List.replicate n (.slice none 0 0),ZS,by simpa using h,fun i v xs hv hx=>?_,fun i j vi vj b _ hi _ hb=>?_,fun i vi b hi hb=>?_⟩
 · obtain⟨-,rfl⟩:_∧v=.slice none 0 0:=by
    rw[List.getElem?_replicate]at hv;split at hv<;>simp at hv;exact⟨‹_›,hv.symm⟩
   obtain rfl:xs=[]:=by
    rw[List.getElem?_replicate]at hx;split at hx<;>simp at hx;exact hx
   exact World.ownsRow_nil _ _ _ _
 · obtain rfl:vi=.slice none 0 0:=by
    rw[List.getElem?_replicate]at hi;split at hi<;>simp at hi;exact hi.symm
   simp[Value.ownBlock]at hb
 · obtain rfl:vi=.slice none 0 0:=by
    rw[List.getElem?_replicate]at hi;split at hi<;>simp at hi;exact hi.symm
   simp[Value.ownBlock]at hb
theorem OwnRows.avoid{w w':World}{base g:Nat}{ti te:TypeId}{av:Nat→Prop}{xss:List (List Int)}(h:OwnRows w base ti te g av xss)(hb:Below w.heap.size w w'){hi:Nat}:OwnRows w' base ti te g (fun k=>w.heap.size≤k∧k<hi) xss:=by
 have h':=h;obtain⟨vs,h1,h2,h3,h4,-⟩:=h;refine⟨vs,h1,Yu h2 hb,fun i v xs hv hx=>Yu (h3 i v xs hv hx) hb,h4,fun i v b hv hbv=>?_⟩;have hkl:i<xss.length:=by rw[← h1];exact(List.getElem?_eq_some_iff.1 hv).1
 have:=(YG (h3 i v _ hv (List.getElem?_eq_getElem hkl)) hbv).2;omega
theorem OwnRows.free{w:World}{base g:Nat}{ti te:TypeId}{av:Nat→Prop}{xss:List (List Int)}(h:OwnRows w base ti te g av xss):OwnRows w base ti te g (fun _=>False) xss:=by
 obtain⟨vs,h1,h2,h3,h4,-⟩:=h;exact⟨vs,h1,h2,h3,h4,fun _ _ _ _ _ h=>h⟩
theorem OwnRows.blk{w:World}{base g:Nat}{ti te:TypeId}{av:Nat→Prop}{xss:List (List Int)}(h:OwnRows w base ti te g av xss):base≤g∧g<w.heap.size:=by
 obtain⟨vs,h1,h2,h3,h4,-⟩:=h;exact h2.lt g rfl
theorem OwnRows.frozen{w:World}{base g:Nat}{ti te:TypeId}{av:Nat→Prop}{xss:List (List Int)}(h:OwnRows w base ti te g av xss)(c:Nat):w.frozen? ⟨g,c,none⟩=false:=by
 obtain⟨vs,h1,h2,h3,h4,-⟩:=h;exact h2.frozenAt c
end Go.Proofs.YtjlclkcmfokobaaGreatDoor
namespace Go.Proofs.YtjlclkcmfokobaaGreatDoor
open Go.RowKit
set_option maxRecDepth 100000
def Y2(i:Nat)(xss:List (List Int))(c:Nat):List (List Int):=xss.set c ((xss.getD c [])++[(i:Int)])
def Y6(F:PFunc):Nat→List (List Int)
 |0=>List.replicate F.blocks.length []
 |i+1=>(EN F i).foldl (Y2 i) (Y6 F i)
def YaO(F:PFunc):List (List Int):=Y6 F F.blocks.length
theorem YfE{i c:Nat}{xss:List (List Int)}:(Y2 i xss c).length=xss.length:=by simp[Y2]
theorem YfF{i:Nat}:∀{l:List Nat} {xss:List (List Int)},(l.foldl (Y2 i) xss).length=xss.length
 |[],_=>rfl
 |c::l,xss=>by rw[List.foldl_cons,YfF,YfE]
theorem Yc3{F:PFunc}:∀n,(Y6 F n).length=F.blocks.length
 |0=>by simp[Y6]
 |n+1=>by rw[Y6,YfF,Yc3 n]
def RowsLe(m:Nat)(xss:List (List Int)):Prop:=∀xs∈xss,xs.length≤m
theorem RowsLe.add{m i c:Nat}{xss:List (List Int)}(h:RowsLe m xss):RowsLe (m+1) (Y2 i xss c):=by
 intro xs hx;unfold Y2 at hx;rcases List.mem_or_eq_of_mem_set hx with hx|hx
 · have:=h xs hx;omega
 · subst hx
   rw[List.length_append,List.getD];cases he:xss[c]? with
   |none=>simp
   |some ys=>have:=h ys (List.mem_of_getElem? he);simp;omega
theorem RowsLe.at_{m c:Nat}{xss:List (List Int)}(h:RowsLe m xss):(xss.getD c []).length≤m:=by
 rw[List.getD];cases he:xss[c]? with
 |none=>simp
 |some ys=>have:=h ys (List.mem_of_getElem? he);simpa using this
theorem YlD{i k:Nat}{l:List Nat}{xss:List (List Int)}(h:k<l.length):(l.take (k+1)).foldl (Y2 i) xss=Y2 i ((l.take k).foldl (Y2 i) xss) (l.getD k 0):=by
 rw[List.take_succ_eq_append_getElem h,List.foldl_append];simp[List.getD,h]
theorem Tryz.info23:(Tryz.prog.info? 23).map (fun i=>(i.zero,i.size,i.bytes))=some (some (.slice none 0 0),1,24):=by kernel_rfl
theorem RetNew.mk_{w w':World}{xs:List Int}{b n c:Nat}(h:RetInts w xs (.returned (.slice (some ⟨b,0,none⟩) n c)) w')(hb:w.heap.size≤b):RetNew w xs (.returned (.slice (some ⟨b,0,none⟩) n c)) w':=
 ⟨h,fun A n' c' he b' off ha=>by
   simp only[Ending.returned.injEq,Value.slice.injEq]at he;obtain⟨rfl,-,-⟩:=he;simp only[Option.some.injEq,Addr.mk.injEq]at ha
   omega⟩
theorem RetNew.none_{w w':World}(h:RetInts w [] (.returned (.slice none 0 0)) w'):RetNew w [] (.returned (.slice none 0 0)) w':=
 ⟨h,fun A n' c' he b' off ha=>by
   simp only[Ending.returned.injEq,Value.slice.injEq]at he;rw[ha]at he
   cases he.1⟩
theorem YlE{w:World}(t:PTerm) :
 Calls Tryz.prog 48 #[.agg #[.int .i64 t.kind,.int .i64 t.var,.int .i64 t.t0,.int .i64 t.t1]] w (RetNew w (endsOf t)):=by
 by_cases h0:t.kind=0
 · have HF:=Lh (show endsOf t=[t.t0] by rw[endsOf,if_pos h0])
   go_enter Tryz.func48,Tryz.ntmps48;go_wp2;go_ret;rw[HF.out];exact RetNew.mk_ (RetInts.one (Nr _) (by first|omega|exact Below.size ZA|(simp;done)|(simp;omega)) ZS BL) ZO
 by_cases h1:t.kind=1
 · by_cases h2:t.t0=t.t1
   · have HF:=Lh (show endsOf t=[t.t0] by rw[endsOf,if_neg h0,if_pos h1,if_pos h2])
     go_enter Tryz.func48,Tryz.ntmps48;go_wp2;go_ret;rw[HF.out];exact RetNew.mk_ (RetInts.one (Nr _) (by first|omega|exact Below.size ZA|(simp;done)|(simp;omega)) (by simp[h2]) BL) ZO
   · have HF:=Lh (show endsOf t=[t.t0,t.t1] by rw[endsOf,if_neg h0,if_pos h1,if_neg h2])
     go_enter Tryz.func48,Tryz.ntmps48;go_wp2;go_ret;rw[HF.out];exact RetNew.mk_ (RetInts.two (Nr _) (by first|omega|exact Below.size ZA|(simp;done)|(simp;omega)) ZS ZS BL) ZO
 · have HF:=Lh (show endsOf t=[] by rw[endsOf,if_neg h0,if_neg h1])
   go_enter Tryz.func48,Tryz.ntmps48;go_wp2;go_ret;rw[HF.out];exact RetNew.none_ (RetInts.nil_ BL)
set_option maxHeartbeats 4000000 in
theorem YfG{W w:World}{fv:Value}{F:PFunc}(hF:FnV W W.heap.size fv F)(hW:Below W.heap.size W w)(hT:Yd F=true) :
 Calls Tryz.prog 91 #[fv] w (Yej w (YaO F)):=by
 obtain⟨A0,c0,A1,c1,A2,c2,rfl,l0,l1,l2,-,-,-,r0,r1,r2⟩:=id hF.open_;obtain⟨n1,n2⟩:=Y1 (Yx hT);have HT:=Lh hT;clear hT;unfold Len at *;have hWs:=hW.size;have hb0:=(Br w.heap.size w).alloc (Nr _) (.cells #[.slice A0 F.vars.length c0,.slice A1 F.params.length c1,.slice A2 F.blocks.length c2] 26);obtain⟨ib,hib,hz0,hz1,hz2⟩:=info_parts Tryz.info23;go_enter Tryz.func91,Tryz.ntmps91
 go_wp2_with(
  at_make;refine wpList_make_full _ rfl _ _ 88 rfl (w.heap.size+1) 23 ib _ 1 Tryz.underlying88 hib hz0 hz1 _ _ _ _ _ rfl rfl rfl rfl (by rw[hz2];omega) (by unfold maxLen;omega) ZS ?_;intro w1 hs1 hg1
  have hs2:w1.ownsRow (w.heap.size+1) 23 1 (.slice (some ⟨w.heap.size+1,0,none⟩) F.blocks.length F.blocks.length) F.blocks.length (List.replicate F.blocks.length (.slice none 0 0)):=by simpa[Value.cells,toList_madeCells_one]using hs1
  have hg2:(w.alloc (.cells #[.slice A0 F.vars.length c0,.slice A1 F.params.length c1,.slice A2 F.blocks.length c2] 26)).grownBy w1 none:=hg1;have hbx:Below (w.heap.size+1) (w.alloc (.cells #[.slice A0 F.vars.length c0,.slice A1 F.params.length c1,.slice A2 F.blocks.length c2] 26)) w1:=(Br _ _).grown hg2 ZS (fun k hk=>by cases hk);obtain⟨hq,hq0,hq1,hq2⟩:=Yn hbx
  clear hs1 hg1)
 have hO1:OwnRows w1 (w.heap.size+1) 23 3 (w.heap.size+1) (fun _=>False) (Y6 F 0):=OwnRows.made hs2
 go_loopw[15] (fun i wr=>∃n:Nat,i=.int .i64 n∧n≤F.blocks.length∧Below (w.heap.size+1) (w.alloc (.cells #[.slice A0 F.vars.length c0,.slice A1 F.params.length c1,.slice A2 F.blocks.length c2] 26)) wr∧OwnRows wr (w.heap.size+1) 23 3 (w.heap.size+1) (fun _=>False) (Y6 F n)∧Hid (RowsLe (2*n) (Y6 F n))) (fun i _=>F.blocks.length-(intOf i).toNat)
 case atStart=>exact⟨0,rfl,Nz _,hbx,hO1,fun xs hx=>by obtain⟨-,rfl⟩:=List.mem_replicate.1 hx;simp⟩
 case round=>as_aux_lemma=>
  obtain⟨n,rfl,hn,hb,hO,hR⟩:=hrel;have hB:=hb0.trans (hb.mono (Nat.le_succ _));have hWr:Below W.heap.size W wr:=hW.trans (hB.mono hWs)
  by_cases hlt:n<F.blocks.length
  · obtain⟨bb,off,A3,c3,A4,c4,rfl,hbb,hnz,hy0,hy1,hy2,hy3,hy4,hy5,hy6,l3,l4,k3,k4,r3,r4⟩:=r2.blk hWr hlt
    have hE:=Lh (Yfy HT.out hlt);have hel:=YdA F n;obtain⟨wq,rfl⟩:∃wq:World,wq=wr:=⟨_,rfl⟩;go_wp2_with(go_at_call 48;refine(YlE (F.blk n).term).mono ?_;rintro e w9 ⟨⟨A9,c9,rfl,l9,k9,r9,hb9⟩,hnew9⟩;obtain⟨hc9,hf9⟩:=Ya hb9;have hz9:=hb9.size;try simp at hz9);replace hnew9:=Lh (hnew9 _ _ _ rfl);have hB9:Below wq.heap.size wq w9:=BL;have hO9:=hO.avoid hB9 (hi:=w9.heap.size);have hEl:(endsOf (F.blk n).term).length=(EN F n).length:=by rw[hE.out];simp[Yf]
    rw[hEl];have hgb:=hO9.blk;have r9':∀k,k<(EN F n).length→∃b off,A9=some ⟨b,off,none⟩∧wq.heap.size≤b∧b<w9.heap.size∧w9.cell? ⟨b,off+k,none⟩=some (.int .i64 ((EN F n).getD k 0:Nat)):=by
     intro k hk;obtain⟨b,off,rfl,hbl,hc⟩:=r9.int (Br _ _) (show k<(endsOf (F.blk n).term).length by rw[hEl];exact hk);have hl:=hnew9.out b off rfl;simp at hl;refine⟨b,off,rfl,ZO,hbl,?_⟩;rw[hc,hE.out,ith,Yf,List.getD,List.getElem?_map,List.getElem?_eq_getElem hk];simp[List.getD,hk]
    go_loopw[24] (fun i wr=>∃k:Nat,i=.int .i64 k∧k≤(EN F n).length∧Below (w.heap.size+1) wq wr∧w9.heap.size≤wr.heap.size∧
     OwnRows wr (w.heap.size+1) 23 3 (w.heap.size+1) (fun k=>wq.heap.size≤k∧k<w9.heap.size) (((EN F n).take k).foldl (Y2 n) (Y6 F n))∧Hid (RowsLe (2*n+k) (((EN F n).take k).foldl (Y2 n) (Y6 F n)))∧
     (∀b j,wq.heap.size≤b→b<w9.heap.size→wr.cell? ⟨b,j,none⟩=w9.cell? ⟨b,j,none⟩)) (fun i _=>(EN F n).length-(intOf i).toNat)
    case atStart=>exact⟨0,rfl,Nz _,hB9.mono (by simpa using hb.size),Nr _,hO9,hR,fun _ _ _ _=>rfl⟩
    case round=>as_aux_lemma=>
     clear hn;obtain⟨k,rfl,hk,hbk,hz,hOk,hRk,hav⟩:=hrel
     by_cases hkt:k<(EN F n).length
     · obtain⟨b9,off9,rfl,hb9l,hb9h,hc9k⟩:=r9' k hkt
       have hm0:=(hav b9 (off9+k) hb9l hb9h).trans hc9k;have hb9w:b9<wr.heap.size:=Nt hb9h hz;have htf:=Lh (YlD (i:=n) (xss:=Y6 F n) hkt);have hcn:(EN F n).getD k 0<F.blocks.length:=by
        refine Yc1 HT.out hlt _ ?_;rw[YL hkt];exact List.getElem_mem hkt
       generalize (EN F n).getD k 0=c at *;have hlen:(((EN F n).take k).foldl (Y2 n) (Y6 F n)).length=F.blocks.length:=by rw[YfF,Yc3]
       have hRl:=hRk.out.at_ (c:=c);have hR2:=hRk.out.add (i:=n) (c:=c);generalize ((EN F n).take k).foldl (Y2 n) (Y6 F n)=xss at *;obtain⟨v,hcv,hown⟩:=hOk.at_ (c:=c) ZO;have hfz:=hOk.frozen c;have hgl:=hOk.blk.2;have HL:=Lh hlen;have hc2:c<xss.length:=by omega
       clear hlen;generalize hxs:xss.getD c []=xs at *;have HXS:=Lh hxs;clear hxs
       go_wp2_with(
        at_builtin;refine YfD _ rfl _ _ 23 rfl (w.heap.size+1) 3 8 Tryz.underlying23 Tryz.info3 rfl v _ _ rfl hown _ rfl _ rfl rfl ZO ZD ZO ?_;intro v' w3 hown3 hg3 hfr3;obtain⟨hm3,hf3,hz3⟩:=hOk.mid ZD hc2 hcv hg3;obtain⟨Av,cv,hv3⟩:=Yp hown3;subst hv3)
       go_roundw
       case measure=>simp[intOf];omega
       case rel=>
        have hstep:=hOk.step ZD hc2 hcv (v':=.slice Av (xs.length+1) cv) (by rw[HXS.out];exact hown3) hg3 hfr3 (fun k hk=>ZO);refine⟨k+1,ZN,ZO,(Ybl hown hg3 hbk (Nr _) ZO).setCell (Nr _) _,?_,?_,?_,fun b j h1 h2=>?_⟩
        · have:=hg3.size
          simp at this ⊢;omega
        · rw[htf.out]
          exact hstep.1
        · unfold Hid
          rw[htf.out];exact hR2
        · exact(hstep.2 b j ⟨h1,h2⟩ (by have:=hO.blk.2;omega) ZO).trans (hav b j h1 h2)
     · have hkl:k=(EN F n).length:=by omega
       have HF:=Lh (show((EN F n).take k).foldl (Y2 n) (Y6 F n)=Y6 F (n+1) by rw[hkl,List.take_length];rfl);rw[HF.out]at hOk hRk;clear hkl;go_wp2;go_roundw
       case rel=>exact⟨n+1,ZN,ZO,hb.trans hbk,hOk.free,fun xs hx=>by have:=hRk.out xs hx;omega⟩
       case measure=>simp[intOf];omega
  · obtain rfl:n=F.blocks.length:=by omega
    have hlen:=Yc3 (F:=F) F.blocks.length;go_wp2;go_ret;have:=hO.ret hB (by rw[hlen];omega) (fun xs hx=>by have:=hR.out xs hx;omega);rw[hlen]at this;exact this
end Go.Proofs.YtjlclkcmfokobaaGreatDoor
