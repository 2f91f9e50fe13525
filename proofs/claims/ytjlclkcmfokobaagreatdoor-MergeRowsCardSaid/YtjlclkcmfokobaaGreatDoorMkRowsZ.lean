/- A row of rows of structs that the call makes: each row its own block. -/
import Derived.Test.YtjlclkcmfokobaaGreatDoorSlcZ
import Derived.Test.YtjlclkcmfokobaaGreatDoorTreePZ
import Derived.Test.YtjlclkcmfokobaaGreatDoorPredsZ
import Derived.Test.YtjlclkcmfokobaaGreatDoorSchZ
import Derived.Test.YtjlclkcmfokobaaGreatDoorNewPZ
namespace Go.Proofs.YtjlclkcmfokobaaGreatDoor
open Go.RowKit
set_option maxRecDepth 100000
def RowsE{α:Type}(w:World)(base:Nat)(te:TypeId)(sz:Nat)(enc:α→List Value)(lo:Nat)(vs:List Value)(xss:List (List α)):Prop:=
 vs.length=xss.length∧
  (∀(i:Nat) (v:Value) (xs:List α),lo≤i→vs[i]?=some v→xss[i]?=some xs→w.ownsRow base te sz v xs.length (xs.flatMap enc))∧
  (∀(i j:Nat) (vi vj:Value) (b:Nat),lo≤i→lo≤j→i≠j→vs[i]?=some vi→vs[j]?=some vj→vi.ownBlock=some b→vj.ownBlock≠some b)
def OwnRowsE{α:Type}(w:World)(base:Nat)(ti te:TypeId)(sz:Nat)(enc:α→List Value)(g:Nat)(xss:List (List α)):Prop:=
 ∃vs:List Value,w.ownsRow base ti 1 (.slice (some ⟨g,0,none⟩) xss.length xss.length) xss.length vs∧RowsE w base te sz enc 0 vs xss
section
variable {α:Type} {w w' w3:World} {base g sz lo:Nat} {ti te:TypeId} {enc:α→List Value} {xss:List (List α)} {vs:List Value}
theorem RowsE.below(h:RowsE w base te sz enc lo vs xss)(hb:Below w.heap.size w w'):RowsE w' base te sz enc lo vs xss:=
 ⟨h.1,fun i v xs hl hv hx=>Yu (h.2.1 i v xs hl hv hx) hb,h.2.2⟩
theorem RowsE.up{lo':Nat}(h:RowsE w base te sz enc lo vs xss)(hl:lo≤lo'):RowsE w base te sz enc lo' vs xss:=
 ⟨h.1,fun i v xs h1=>h.2.1 i v xs (Nat.le_trans hl h1),fun i j vi vj b h1 h2=>h.2.2 i j vi vj b (Nat.le_trans hl h1) (Nat.le_trans hl h2)⟩
theorem RowsE.row(h:RowsE w base te sz enc lo vs xss){c:Nat}(hc:c<xss.length)(hl:lo≤c):∃v,vs[c]?=some v∧w.ownsRow base te sz v (xss.getD c []).length ((xss.getD c []).flatMap enc):=by
 have hv:vs[c]?=some (vs[c]'(by rw[h.1];exact hc)):=List.getElem?_eq_getElem _;exact⟨_,hv,h.2.1 c _ _ hl hv (by simp[hc])⟩
theorem RowsE.next(h:RowsE w base te sz enc lo vs xss){c:Nat}(hl:lo≤c){v:Value}(hv:vs[c]?=some v){o:Obj}(hg:(w.alloc o).grownBy w3 v.ownBlock):RowsE w3 base te sz enc (c+1) vs xss:=
 ⟨h.1,fun i vi xs hi hvi hx=>Yan (h.2.1 i vi xs ZO hvi hx) ((Br _ _).alloc (Nr _) _) hg (fun b hb hb'=>h.2.2 c i v vi b hl ZO ZO hv hvi hb' hb),
   fun i j vi vj b h1 h2=>h.2.2 i j vi vj b ZO ZO⟩
theorem RowsE.far(h:RowsE w base te sz enc lo vs xss){N:Nat}(hN:∀(i:Nat) (v:Value) (b:Nat),vs[i]?=some v→v.ownBlock=some b→b<N){o:Obj}{r:Option Nat}(hg:(w.alloc o).grownBy w3 r)(hr:∀b,r=some b→N≤b):RowsE w3 base te sz enc lo vs xss:=
 ⟨h.1,fun i vi xs hi hvi hx=>Yan (h.2.1 i vi xs hi hvi hx) ((Br _ _).alloc (Nr _) _) hg (fun b hb hb'=>by have:=hN i vi b hvi hb;have:=hr b hb';omega),h.2.2⟩
theorem OwnRowsE.below(h:OwnRowsE w base ti te sz enc g xss)(hb:Below w.heap.size w w'):OwnRowsE w' base ti te sz enc g xss:=by
 obtain⟨vs,h1,h2⟩:=h;exact⟨vs,Yu h1 hb,h2.below hb⟩
theorem OwnRowsE.at_(h:OwnRowsE w base ti te sz enc g xss){c:Nat}(hc:c<xss.length) :
 ∃v,w.cell? ⟨g,c,none⟩=some v∧w.ownsRow base te sz v (xss.getD c []).length ((xss.getD c []).flatMap enc):=by
 obtain⟨vs,h1,h2⟩:=h;obtain⟨v,hv,ho⟩:=h2.row hc (Nz _);exact⟨v,by rw[h1.cellAt c ZO];exact hv,ho⟩
theorem OwnRowsE.blk(h:OwnRowsE w base ti te sz enc g xss):base≤g∧g<w.heap.size:=by
 obtain⟨vs,h1,h2⟩:=h;exact h1.lt g rfl
theorem OwnRowsE.frozen(h:OwnRowsE w base ti te sz enc g xss)(c:Nat):w.frozen? ⟨g,c,none⟩=false:=by
 obtain⟨vs,h1,h2⟩:=h;exact h1.frozenAt c
theorem OwnRowsE.mid(h:OwnRowsE w base ti te sz enc g xss)(hne:ti≠te){c:Nat}(hc:c<xss.length){v:Value}{o:Obj}(hv:w.cell? ⟨g,c,none⟩=some v)
 (hg:(w.alloc o).grownBy w3 v.ownBlock):w3.cell? ⟨g,c,none⟩=some v∧w3.frozen? ⟨g,c,none⟩=false∧g<w3.heap.size:=by
 obtain⟨vs,h2,h3⟩:=h;have hvc:vs[c]?=some v:=by
  have:=h2.cellAt c ZO;rw[hv]at this;exact this.symm
 have hrow:=h3.2.1 c v _ (Nz _) hvc (show xss[c]?=some (xss.getD c []) by simp[hc]);have ha:Below w.heap.size w (w.alloc o):=(Br _ _).alloc (Nr _) _;have hg3:w3.ownsRow base ti 1 (.slice (some ⟨g,0,none⟩) xss.length xss.length) xss.length vs:=
  Yan h2 ha hg (fun b hb=>Y5 h2 hrow hne hb)
 exact⟨(hg3.cellAt c ZO).trans hvc,hg3.frozenAt c,(hg3.lt g rfl).2⟩
theorem OwnRowsE.step(h:OwnRowsE w base ti te sz enc g xss)(hne:ti≠te){c:Nat}(hc:c<xss.length){v v':Value}{x:α}{o:Obj}(hv:w.cell? ⟨g,c,none⟩=some v)
 (hown:w3.ownsRow base te sz v' ((xss.getD c []).length+1) ((xss.getD c []).flatMap enc++enc x)) (hg:(w.alloc o).grownBy w3 v.ownBlock) (hfr:∀k,v'.ownBlock=some k→v.ownBlock=some k∨w.heap.size<k) :
 OwnRowsE (w3.setCell ⟨g,c,none⟩ v') base ti te sz enc g (xss.set c ((xss.getD c [])++[x])):=by
 obtain⟨vs,h2,h1,h3,h4⟩:=h;have hvc:vs[c]?=some v:=by
  have:=h2.cellAt c ZO;rw[hv]at this;exact this.symm
 have hrow:=h3 c v _ (Nz _) hvc (show xss[c]?=some (xss.getD c []) by simp[hc]);have ha:Below w.heap.size w (w.alloc o):=(Br _ _).alloc (Nr _) _;have hg3:w3.ownsRow base ti 1 (.slice (some ⟨g,0,none⟩) xss.length xss.length) xss.length vs:=
  Yan h2 ha hg (fun b hb=>Y5 h2 hrow hne hb)
 have hst:=(hg3.stored c v').1;refine⟨vs.set c v',by simpa using hst,by simp[h1],fun i vi xs _ hi hx=>?_,fun i j vi vj b _ _ hij hi hj hbi=>?_⟩
 · have hgne:∀{vx:Value} {nx:Nat} {xx:List Value},w3.ownsRow base te sz vx nx xx→vx.ownBlock≠some g:=fun hx=>Y5 hg3 hx hne rfl
   by_cases hic:c=i
   · subst hic
     rw[List.getElem?_set_self ZO]at hi hx;simp only[Option.some.injEq]at hi hx;subst hi hx;refine ownsRow_setCell_other (a:=⟨g,c,none⟩) ?_ (hgne hown) v';simpa using hown
   · rw[List.getElem?_set_ne hic]at hi hx
     have h5x:=h3 i vi xs (Nz _) hi hx;have h6:w3.ownsRow base te sz vi xs.length (xs.flatMap enc):=Yan h5x ha hg (fun b hb hb'=>h4 c i v vi b (Nz _) (Nz _) hic hvc hi hb' hb);exact ownsRow_setCell_other (a:=⟨g,c,none⟩) h6 (hgne h6) v'
 · have hlt:∀(k:Nat) (vk:Value),vs[k]?=some vk→vk.ownBlock=some b→b<w.heap.size:=fun k vk hk hb=>by
    have hkl:k<xss.length:=by rw[← h1];exact(List.getElem?_eq_some_iff.1 hk).1
    exact(YG (h3 k vk _ (Nz _) hk (List.getElem?_eq_getElem hkl)) hb).2
   by_cases hic:c=i
   · subst hic
     rw[List.getElem?_set_self ZO]at hi;simp only[Option.some.injEq]at hi;subst hi;rw[List.getElem?_set_ne hij]at hj;intro hbj;rcases hfr b hbi with hb|hb
     · exact h4 c j v vj b (Nz _) (Nz _) hij hvc hj hb hbj
     · have:=hlt j vj hj hbj
       omega
   · rw[List.getElem?_set_ne hic]at hi
     by_cases hjc:c=j
     · subst hjc
       rw[List.getElem?_set_self ZO]at hj;simp only[Option.some.injEq]at hj;subst hj;intro hbj;rcases hfr b hbj with hb|hb
       · exact h4 i c vi v b (Nz _) (Nz _) hij hi hvc hbi hb
       · have:=hlt i vi hi hbi
         omega
     · rw[List.getElem?_set_ne hjc]at hj
       exact h4 i j vi vj b (Nz _) (Nz _) hij hi hj hbi
theorem OwnRowsE.made{n:Nat}(h:w.ownsRow base ti 1 (.slice (some ⟨g,0,none⟩) n n) n (List.replicate n (.slice none 0 0))):OwnRowsE w base ti te sz enc g (List.replicate n ([]:List α)):=by
 refine⟨List.replicate n (.slice none 0 0),by simpa using h,ZS,fun i v xs _ hv hx=>?_,fun i j vi vj b _ _ _ hi _ hb=>?_⟩
 · obtain⟨-,rfl⟩:_∧v=.slice none 0 0:=by
    rw[List.getElem?_replicate]at hv;split at hv<;>simp at hv;exact⟨‹_›,hv.symm⟩
   obtain rfl:xs=[]:=by
    rw[List.getElem?_replicate]at hx;split at hx<;>simp at hx;exact hx
   exact World.ownsRow_nil _ _ _ _
 · obtain rfl:vi=.slice none 0 0:=by
    rw[List.getElem?_replicate]at hi;split at hi<;>simp at hi;exact hi.symm
   simp[Value.ownBlock]at hb
end
def Y8(p:Int×Int):List Value:=[.int .i64 p.1,.int .i64 p.2]
def Yb3(w:World)(b o:Nat)(p:Int×Int):Prop:=w.cell? ⟨b,o,none⟩=some (.int .i64 p.1)∧w.cell? ⟨b,o+1,none⟩=some (.int .i64 p.2)
def SPlc(w:World)(B:Nat)(v:Value)(xs:List (Int×Int)):Prop:=Sl B v xs 2 (Yb3 w)
theorem SPlc.keep{w w':World}{B B':Nat}{v:Value}{xs:List (Int×Int)}(h:SPlc w B v xs)(hk:Kept B w w')(hB:B≤B'):SPlc w' B' v xs:=
 Sl.keep h hB fun b o x hb hx=>by unfold Yb3 at *;rw[hk b _ hb,hk b _ hb];exact hx
theorem YlY(xs:List (Int×Int)):(xs.flatMap Y8).length=xs.length*2:=by
 induction xs with
 |nil=>rfl
 |cons a r ih=>simp[List.flatMap_cons,ih,Y8];omega
theorem YfM:∀{xs:List (Int×Int)} {i:Nat} {p:Int×Int},xs[i]?=some p→(xs.flatMap Y8)[i*2]?=some (.int .i64 p.1)∧(xs.flatMap Y8)[i*2+1]?=some (.int .i64 p.2)
 |[],i,p,h=>by simp at h
 |a::r,0,p,h=>by simp at h;subst h;simp[Y8]
 |a::r,i+1,p,h=>by
  have:=YfM (xs:=r) (i:=i) (by simpa using h);rw[show(i+1)*2=i*2+2 from ZO];simpa[List.flatMap_cons,Y8]using this
theorem SPlc.of_own{w:World}{base e n:Nat}{v:Value}{xs:List (Int×Int)}(h:w.ownsRow base e 2 v n (xs.flatMap Y8))(hn:n≤1048576):n=xs.length∧SPlc w w.heap.size v xs:=by
 have hl:=h.1;rw[YlY]at hl;have hnl:n=xs.length:=by omega
 subst hnl;refine⟨rfl,?_⟩;rcases h.2 with⟨rfl,h0⟩|⟨g,cap,cur,rfl,hb,hg,hnc,hcm,hsz,hcur⟩
 · have:xs=[]:=List.eq_nil_of_length_eq_zero h0
   subst this;exact⟨none,0,rfl,by simp[Len],Nr _,fun i x hx=>by simp at hx⟩
 · refine⟨_,_,rfl,by unfold Len;omega,hnc,fun i x hx=>⟨g,0,rfl,(Array.getElem?_eq_some_iff.1 hg).1,?_⟩⟩
   have h2:=YfM hx;have hi:i<xs.length:=(List.getElem?_eq_some_iff.1 hx).1;have hc:=h.cells (g:=g) rfl;have e0:=hc _ _ h2.1;have e1:=hc _ _ h2.2;have a0:((⟨g,0,none⟩:Addr).add (i*2))=⟨g,0+i*2,none⟩:=by simp[Addr.add];omega
   have a1:((⟨g,0,none⟩:Addr).add (i*2+1))=⟨g,0+i*2+1,none⟩:=by simp[Addr.add]
   rw[a0]at e0;rw[a1]at e1;exact⟨e0,e1⟩
section
variable {P:Program}
theorem YlZ(w:World){t ty:TypeId}(base:Nat)(e:TypeId)(sz bytes:Nat)(ht:P.underlying t=some (.slice e)){z:Value}(hinf:(P.info? e).map (fun i=>(i.zero,i.size,i.bytes))=some (some z,sz,bytes))(hz1:z.cells.size=sz)(hsz:0<sz)
 (v:Value) (n:Nat) (xs:List Value) (hown:w.ownsRow base e sz v n xs) (us:Array Value) (hul:us.size=sz) (h1:∀u∈us,u.oneCell'=true) (h63:n<1048576) (hby:bytes≤128) (hbase:base≤w.heap.size) :
 ∃v' w',(Builtin.append_ #[t,t] ty #[v,.slice (some ⟨w.heap.size,0,none⟩) 1 1]).run P (w.alloc (.cells us e))=.ok v' w'∧w'.ownsRow base e sz v' (n+1) (xs++us.toList)∧(w.alloc (.cells us e)).grownBy w' v.ownBlock∧
  ∀k,v'.ownBlock=some k→v.ownBlock=some k∨w.heap.size<k:=by
 obtain⟨i,hi,hz,hisz,hb⟩:=info_parts hinf;have hnews:∀j u,us.toList[j]?=some u→(w.alloc (.cells us e)).cell? ((⟨w.heap.size,0,none⟩:Addr).add j)=some u:=fun j u hu=>by
  have:=(BoxAt.new w us e).cell j;rw[show((⟨w.heap.size,0,none⟩:Addr).add j)=⟨w.heap.size,j,none⟩ by simp[Addr.add];omega,this];simpa using hu
 have hbytes:(n+1)*bytes≤140737488355328:=by
  calc(n+1)*bytes≤1048576*128:=Nat.mul_le_mul ZO hby
   _≤140737488355328:=by decide
 obtain⟨v',w',hr,h2,h3,-,h4⟩:=run_append_own_at (P:=P) (w:=w.alloc (.cells us e)) base t ty e i z sz bytes ht hi hz hisz hb hz1 hsz v n xs (hown.alloc (.cells us e)) ⟨w.heap.size,0,none⟩ 1 1 us.toList (by simp[hul]) hnews (fun u hu=>h1 u (by simpa using hu)) (by unfold maxLen;omega) hbytes ZX;refine⟨v',w',hr,h2,h3,fun k hk=>?_⟩;rcases h4 with e|e
 · exact .inl (by rw[← e];exact hk)
 · rw[e]at hk
   cases hk;exact .inr ZS
end
structure Ev where
 dst:Int
 blk:Nat
 pos:Int
def evPhi(F:PFunc)(i k:Nat):List Ev:=(List.range k).map fun j=>⟨((F.blk i).phi j).dst,i,-1⟩
def evIns(F:PFunc)(i k:Nat):List Ev:=(List.range k).map fun j=>⟨((F.blk i).inst j).dst,i,j⟩
def Yah(F:PFunc)(i:Nat):List Ev:=evPhi F i (F.blk i).phis.length++evIns F i (F.blk i).insts.length
def evs(F:PFunc):Nat→List Ev
 |0=>[]
 |n+1=>evs F n++Yah F n
def plc(e:Ev):Int×Int:=((e.blk:Int),e.pos)
def mkOf(l:List Ev)(v:Int):List (Int×Int):=(l.filter fun e=>e.dst==v).map plc
def Yy(nv:Nat)(l:List Ev):List (List (Int×Int)):=(List.range nv).map fun(v:Nat)=>mkOf l (v:Int)
section
variable {F:PFunc} {nv i k v d:Nat} {l:List Ev} {e:Ev}
theorem YfN:evPhi F i 0=[]:=rfl
theorem YfO:evIns F i 0=[]:=rfl
theorem Yem:evPhi F i (k+1)=evPhi F i k++[⟨((F.blk i).phi k).dst,i,-1⟩]:=by simp[evPhi,List.range_succ]
theorem YdF:evIns F i (k+1)=evIns F i k++[⟨((F.blk i).inst k).dst,i,k⟩]:=by simp[evIns,List.range_succ]
theorem Ycl:(evPhi F i k).length=k:=by simp[evPhi]
theorem Yc8:(evIns F i k).length=k:=by simp[evIns]
theorem Yl0{v:Int}:mkOf [] v=[]:=rfl
theorem YaP{a b:List Ev}{v:Int}:mkOf (a++b) v=mkOf a v++mkOf b v:=by simp[mkOf]
theorem YbT{v:Int}:mkOf [e] v=if e.dst=v then [plc e] else []:=by
 unfold mkOf
 by_cases h:e.dst=v
 · simp[h]
 · simp[h]
theorem Yen{v:Int}:(mkOf l v).length≤l.length:=by
 unfold mkOf;rw[List.length_map];exact List.length_filter_le _ _
theorem YdG:(Yy nv l).length=nv:=by simp[Yy]
theorem YdH(h:v<nv):(Yy nv l).getD v []=mkOf l (v:Int):=by simp[Yy,List.getD,h]
theorem Yl1:Yy nv []=List.replicate nv []:=by
 unfold Yy;refine List.ext_getElem ZS fun j h1 h2=>?_
 simp[Yl0]
theorem Yhx(hd:e.dst=(d:Int)):Yy nv (l++[e])=(Yy nv l).set d ((Yy nv l).getD d []++[plc e]):=by
 refine List.ext_getElem (by simp[Yy]) fun j h1 h2=>?_
 have hj:j<nv:=by simpa[Yy]using h1
 rw[List.getElem_set]
 by_cases h:d=j
 · subst h
   rw[if_pos rfl,YdH hj];simp[Yy,YaP,YbT,hd]
 · rw[if_neg h]
   have:¬e.dst=(j:Int):=by rw[hd];omega
   simp[Yy,YaP,YbT,this]
theorem Yl2(hd:e.dst<0):Yy nv (l++[e])=Yy nv l:=by
 refine List.ext_getElem (by simp[Yy]) fun j h1 h2=>?_
 have:¬e.dst=(j:Int):=by omega
 simp[Yy,YaP,YbT,this]
theorem Yhy:∀{n:Nat},n≤F.blocks.length→(evs F n).length+YaK (F.blocks.drop n)=YaK F.blocks
 |0,_=>by simp[evs]
 |n+1,h=>by
  have h1:=Yhy (n:=n) ZO;rw[Yct ZO,YaK]at h1;simp only[evs,Yah,List.length_append,Ycl,Yc8];omega
theorem Yhz:∀{n:Nat} {e:Ev},e∈evs F n→e.blk<n
 |0,e,h=>by simp[evs]at h
 |n+1,e,h=>by
  simp only[evs,Yah,List.mem_append]at h;rcases h with h|h|h
  · have:=Yhz h;omega
  · simp only[evPhi,List.mem_map]at h
    obtain⟨a,_,rfl⟩:=h;exact Nat.lt_succ_self _
  · simp only[evIns,List.mem_map]at h
    obtain⟨a,_,rfl⟩:=h;exact Nat.lt_succ_self _
end
def evF(F:PFunc):List Ev:=evs F F.blocks.length
def Yb4(l:List (Int×Int)):Int×Int:=(l++[(-1,0)]).headD (-1,0)
def Yi(F:PFunc)(v:Int):Int×Int:=Yb4 (mkOf (evF F) v)
theorem Yl3:Yb4 []=(-1,0):=rfl
theorem Yl4{p:Int×Int}{r:List (Int×Int)}:Yb4 (p::r)=p:=rfl
def onceAt(F:PFunc)(v:Nat):Bool:=!(decide (1<(mkOf (evF F) (v:Int)).length)||decide (0<(mkOf (evF F) (v:Int)).length)&&decide (v<F.params.length))
def Yr(F:PFunc):Bool:=(List.range F.vars.length).all (onceAt F)
def Yba(T:Nat→Nat→Bool)(m:Int×Int)(b:Nat)(at_:Int):Bool:=if m.1<0 then true else if m.1=(b:Int) then decide (m.2<at_) else T m.1.toNat b
def YC(F:PFunc)(T:Nat→Nat→Bool)(v:Int)(b:Nat)(at_:Int):Bool:=Yba T (Yi F v) b at_
def pairOk(F:PFunc)(T:Nat→Nat→Bool)(p:PPhi)(k:Nat):Bool:=YC F T (ith p.args k) (ith p.froms k).toNat ((F.blk (ith p.froms k).toNat).insts.length:Int)
def Ybt(F:PFunc)(T:Nat→Nat→Bool)(p:PPhi):Bool:=(List.range p.args.length).all (pairOk F T p)
def instBe(F:PFunc)(T:Nat→Nat→Bool)(i k:Nat):Bool:=((F.blk i).inst k).args.all fun v=>YC F T v i (k:Int)
def Yc9(F:PFunc)(T:Nat→Nat→Bool)(i:Nat):Bool:=decide ((F.blk i).term.kind=0)||YC F T (F.blk i).term.var i ((F.blk i).insts.length:Int)
def YH(F:PFunc)(T:Nat→Nat→Bool)(i:Nat):Bool:=(F.blk i).phis.all (Ybt F T)&&(List.range (F.blk i).insts.length).all (instBe F T i)&&Yc9 F T i
def noPi(F:PFunc):Bool:=F.blocks.all fun b=>b.insts.all fun x=>decide (x.op<25)
section
variable {F:PFunc} {n k m:Nat}
theorem Yeo:∀{i j:Nat},i≤j→∃r,evs F j=evs F i++r
 |i,0,h=>⟨[],by rw[show i=0 from ZO];simp⟩
 |i,j+1,h=>by
  by_cases e:i=j+1
  · exact⟨[],by rw[e];simp⟩
  · obtain⟨r,hr⟩:=Yeo (i:=i) (j:=j) ZO
    exact⟨r++Yah F j,by rw[evs,hr,List.append_assoc]⟩
theorem Yl5(h:k<m):∃r,evPhi F n m=evPhi F n k++⟨((F.blk n).phi k).dst,n,-1⟩::r:=by
 refine⟨(evPhi F n m).drop (k+1),?_⟩;have h1:(evPhi F n m).take k=evPhi F n k:=by
  unfold evPhi;rw[← List.map_take,List.take_range,Nat.min_eq_left ZO]
 rw[← h1];have h2:k<(evPhi F n m).length:=by rw[Ycl];exact h
 have h3:(evPhi F n m)[k]=⟨((F.blk n).phi k).dst,n,-1⟩:=by simp[evPhi]
 rw[← h3,← List.drop_eq_getElem_cons h2,List.take_append_drop]
theorem Yl6(h:k<m):∃r,evIns F n m=evIns F n k++⟨((F.blk n).inst k).dst,n,k⟩::r:=by
 refine⟨(evIns F n m).drop (k+1),?_⟩;have h1:(evIns F n m).take k=evIns F n k:=by
  unfold evIns;rw[← List.map_take,List.take_range,Nat.min_eq_left ZO]
 rw[← h1];have h2:k<(evIns F n m).length:=by rw[Yc8];exact h
 have h3:(evIns F n m)[k]=⟨((F.blk n).inst k).dst,n,(k:Int)⟩:=by simp[evIns]
 rw[← h3,← List.drop_eq_getElem_cons h2,List.take_append_drop]
theorem Yl7(hn:n<F.blocks.length)(hk:k<(F.blk n).phis.length):∃r,evF F=(evs F n++evPhi F n k)++⟨((F.blk n).phi k).dst,n,-1⟩::r:=by
 obtain⟨r,hr⟩:=Yeo (F:=F) (i:=n+1) (j:=F.blocks.length) ZO;obtain⟨r2,hr2⟩:=Yl5 (F:=F) (n:=n) hk;exact⟨r2++(evIns F n (F.blk n).insts.length++r),by rw[evF,hr,evs,Yah,hr2];simp⟩
theorem Yl8(hn:n<F.blocks.length)(hk:k<(F.blk n).insts.length):∃r,evF F=(evs F n++(evPhi F n (F.blk n).phis.length++evIns F n k))++⟨((F.blk n).inst k).dst,n,k⟩::r:=by
 obtain⟨r,hr⟩:=Yeo (F:=F) (i:=n+1) (j:=F.blocks.length) ZO;obtain⟨r2,hr2⟩:=Yl6 (F:=F) (n:=n) hk;exact⟨r2++r,by rw[evF,hr,evs,Yah,hr2];simp⟩
theorem YhA{l r:List Ev}{e:Ev}{v:Int}(h:evF F=l++e::r)(hl:mkOf l v=[])(he:e.dst=v):Yi F v=plc e:=by
 unfold Yi;rw[h,YaP,hl,show e::r=[e]++r from rfl,YaP,YbT,if_pos he];rfl
end
theorem YhB{F:PFunc}{v:Int}:(Yi F v).1=-1∨∃b,b<F.blocks.length∧(Yi F v).1=(b:Int):=by
 unfold Yi;cases hm:mkOf (evF F) v with
 |nil=>exact .inl rfl
 |cons p r=>
  have hp:p∈mkOf (evF F) v:=by rw[hm];simp
  unfold mkOf at hp;rw[List.mem_map]at hp;obtain⟨e,he,rfl⟩:=hp;exact .inr ⟨e.blk,Yhz (List.mem_filter.1 he).1,rfl⟩
theorem YdI{F:PFunc}(hT:Yd F=true){i k:Nat}(hi:i<F.blocks.length)(hk:k<(F.blk i).phis.length) :
 ((F.blk i).phi k).args.length=((F.blk i).phi k).froms.length∧(0≤((F.blk i).phi k).dst∧((F.blk i).phi k).dst<F.vars.length)∧
  ∀j,j<((F.blk i).phi k).args.length→0≤ith ((F.blk i).phi k).args j∧ith ((F.blk i).phi k).args j<F.vars.length:=by
 have h1:=(Ybd (Yx hT) hi).1 _ (Ybo hk);unfold YI at h1;simp only[Bool.and_eq_true,decide_eq_true_eq]at h1;refine⟨h1.1.1.1.2,YQ h1.1.1.2,fun j hj=>?_⟩;have h2:=h1.1.2;unfold Yw at h2;exact YQ (List.all_eq_true.1 h2 _ (List.mem_of_getElem? (Ybz hj)))
theorem YdJ{F:PFunc}(hT:Yd F=true){i k:Nat}(hi:i<F.blocks.length)(hk:k<(F.blk i).insts.length) :
 (((F.blk i).inst k).dst<0∨0≤((F.blk i).inst k).dst∧((F.blk i).inst k).dst<F.vars.length)∧
  ∀j,j<((F.blk i).inst k).args.length→0≤ith ((F.blk i).inst k).args j∧ith ((F.blk i).inst k).args j<F.vars.length:=by
 have h1:=(Ybd (Yx hT) hi).2.1 _ (Yar hk);unfold Ym at h1;simp only[Bool.and_eq_true]at h1;refine⟨?_,fun j hj=>?_⟩
 · have h2:=h1.1.2
   unfold YaX at h2;split at h2
   · exact .inr (YQ h2)
   · left
     have:=of_decide_eq_true h2;omega
 · have h2:=h1.1.1.2
   unfold Yw at h2;exact YQ (List.all_eq_true.1 h2 _ (List.mem_of_getElem? (Ybz hj)))
theorem YhC{F:PFunc}(hT:Yd F=true){i:Nat}(hi:i<F.blocks.length)(h0:(F.blk i).term.kind≠0):0≤(F.blk i).term.var∧(F.blk i).term.var<F.vars.length:=
 YQ (Yfr (Ybd (Yx hT) hi).2.2 h0)
theorem YfP{F:PFunc}(hT:Yd F=true){n:Nat}(hn:n≤F.blocks.length):(evs F n).length≤1024:=by
 have h:=Yx hT;unfold Yj at h;simp only[Bool.and_eq_true,decide_eq_true_eq]at h;have:=Yhy (F:=F) hn;omega
theorem Yep{F:PFunc}(hT:Yd F=true){n:Nat}(hn:n<F.blocks.length):(evs F n).length+(F.blk n).phis.length+(F.blk n).insts.length≤1024:=by
 have h:=YfP hT (n:=n+1) ZO;simp only[evs,Yah,List.length_append,Ycl,Yc8]at h;omega
theorem Yb5{F:PFunc}(hT:Yd F=true):F.vars.length≤512:=by
 have h:=Yx hT;unfold Yj Yag at h;simp only[Bool.and_eq_true,decide_eq_true_eq]at h;exact h.1.1.1.1.1.1.1.1.2
def Ybu(F:PFunc):List (Int×Int):=(List.range F.vars.length).map fun(v:Nat)=>Yi F (v:Int)
theorem Yeq{F:PFunc}:(Ybu F).length=F.vars.length:=by simp[Ybu]
theorem YfQ{F:PFunc}{v:Nat}(h:v<F.vars.length):(Ybu F)[v]?=some (Yi F (v:Int)):=by simp[Ybu,h]
theorem Tryz.info203:(Tryz.prog.info? 203).map (fun i=>(i.zero,i.size,i.bytes))=some (some (.agg #[.int .i64 0,.int .i64 0]),2,16):=by kernel_rfl
theorem Tryz.info163:(Tryz.prog.info? 163).map (fun i=>(i.zero,i.size,i.bytes))=some (some (.slice none 0 0),1,24):=by kernel_rfl
def Yl9(w:World)(F:PFunc)(e:Ending)(w':World):Prop:=∃g B,e=.returned (.slice (some ⟨g,0,none⟩) F.vars.length F.vars.length)∧w.heap.size≤B∧OwnRowsE w' B 163 203 2 Y8 g (Yy F.vars.length (evF F))∧Below w.heap.size w w'
theorem YhD{w:World}{B g c:Nat}{K:List (List (Int×Int))}{p:Int×Int}(h:OwnRowsE w B 163 203 2 Y8 g K)(hB:B≤w.heap.size)(hc:c<K.length)(hl:(K.getD c []).length≤1024) :
 ∃A n cv A' cv' w3,w.cell? ⟨g,c,none⟩=some (.slice A n cv)∧
  (Builtin.append_ #[163,163] 163 #[.slice A n cv,.slice (some ⟨w.heap.size,0,none⟩) 1 1]).run Tryz.prog (w.alloc (.cells #[.int .i64 p.1,.int .i64 p.2] 203))=.ok (.slice A' (n+1) cv') w3∧
  OwnRowsE (w3.setCell ⟨g,c,none⟩ (.slice A' (n+1) cv')) B 163 203 2 Y8 g (K.set c (K.getD c []++[p]))∧
  w3.cell? ⟨g,c,none⟩=some (.slice A n cv)∧w3.frozen? ⟨g,c,none⟩=false∧g<w3.heap.size∧Below B w w3∧w.heap.size<w3.heap.size∧
  ∀(g':Nat) (cs:Array Value) (t:TypeId),BoxAt w g' cs t→t≠203→t≠163→BoxAt w3 g' cs t∧BoxAt (w3.setCell ⟨g,c,none⟩ (.slice A' (n+1) cv')) g' cs t:=by
 obtain⟨v,hcv,hown⟩:=h.at_ hc;obtain⟨A,cv,rfl⟩:=Yp hown;obtain⟨v',w3,hrun,hown3,hg3,hfr3⟩:=YlZ (P:=Tryz.prog) (t:=163) (ty:=163) w B 203 2 16 Tryz.underlying163 Tryz.info203 rfl ZD _ _ _ hown #[.int .i64 p.1,.int .i64 p.2] rfl (by intro u hu;simp at hu;rcases hu with rfl|rfl<;>rfl) ZO ZD hB;obtain⟨m1,m2,m3⟩:=h.mid ZD hc hcv hg3;obtain⟨A',cv',rfl⟩:=Yp hown3;refine⟨A,_,cv,A',cv',w3,hcv,hrun,h.step ZD hc hcv hown3 hg3 hfr3,m1,m2,m3,Ybl hown hg3 ((Br _ _).mono hB) (Nr _) hB,?_,fun g' cs t hx h1 h2=>?_⟩
 · have:=hg3.size
   simp at this;omega
 · have hgg:g≠g':=by
    obtain⟨vs,h0,-⟩:=h;have:=Yck h0 hx (fun e=>h2 e.symm);intro e;subst e;exact this rfl
   have h3:=(hx.alloc (.cells #[.int .i64 p.1,.int .i64 p.2] 203)).grown hg3 (Yck hown hx (fun e=>h1 e.symm));exact⟨h3,BoxAt.other h3 hgg _⟩
set_option maxHeartbeats 8000000 in
theorem YhE{W w:World}{fv:Value}{F:PFunc}(hF:FnV W W.heap.size fv F)(hW:Below W.heap.size W w)(hT:Yd F=true) :
 Calls Tryz.prog 150 #[fv] w (Yl9 w F):=by
 obtain⟨A0,c0,A1,c1,A2,c2,rfl,l0,l1,l2,-,-,-,r0,r1,r2⟩:=id hF.open_;obtain⟨n1,n2⟩:=Y1 (Yx hT);have nv:=Yb5 hT;have HT:=Lh hT;clear hT;unfold Len at *;have hWs:=hW.size;have hb0:=(Br w.heap.size w).alloc (Nr _) (.cells #[.slice A0 F.vars.length c0,.slice A1 F.params.length c1,.slice A2 F.blocks.length c2] 26);obtain⟨ib,hib,hz0,hz1,hz2⟩:=info_parts Tryz.info163;go_enter Tryz.func150,Tryz.ntmps150
 go_wp2_with(
  at_make;refine wpList_make_full _ rfl _ _ 200 rfl (w.heap.size+1) 163 ib _ 1 Tryz.underlying200 hib hz0 hz1 _ _ _ _ _ rfl rfl rfl rfl (by rw[hz2];omega) (by unfold maxLen;omega) ZS ?_;intro w1 hs1 hg1
  have hs2:w1.ownsRow (w.heap.size+1) 163 1 (.slice (some ⟨w.heap.size+1,0,none⟩) F.vars.length F.vars.length) F.vars.length (List.replicate F.vars.length (.slice none 0 0)):=by simpa[Value.cells,toList_madeCells_one]using hs1
  have hg2:(w.alloc (.cells #[.slice A0 F.vars.length c0,.slice A1 F.params.length c1,.slice A2 F.blocks.length c2] 26)).grownBy w1 none:=hg1;have hbx:Below (w.heap.size+1) (w.alloc (.cells #[.slice A0 F.vars.length c0,.slice A1 F.params.length c1,.slice A2 F.blocks.length c2] 26)) w1:=(Br _ _).grown hg2 ZS (fun k hk=>by cases hk);obtain⟨hq,hq0,hq1,hq2⟩:=Yn hbx
  clear hs1 hg1)
 have hO1:OwnRowsE w1 (w.heap.size+1) 163 203 2 Y8 (w.heap.size+1) (Yy F.vars.length (evs F 0)):=by
  rw[evs,Yl1];exact OwnRowsE.made hs2
 go_loopw[17] (fun i wr=>∃n:Nat,i=.int .i64 n∧n≤F.blocks.length∧Below (w.heap.size+1) (w.alloc (.cells #[.slice A0 F.vars.length c0,.slice A1 F.params.length c1,.slice A2 F.blocks.length c2] 26)) wr∧OwnRowsE wr (w.heap.size+1) 163 203 2 Y8 (w.heap.size+1) (Yy F.vars.length (evs F n))) (fun i _=>F.blocks.length-(intOf i).toNat)
 case atStart=>exact⟨0,rfl,Nz _,hbx,hO1⟩
 case round=>as_aux_lemma=>
  obtain⟨n,rfl,hn,hb,hO⟩:=hrel;have hB:=hb0.trans (hb.mono (Nat.le_succ _));have hWr:Below W.heap.size W wr:=hW.trans (hB.mono hWs)
  by_cases hlt:n<F.blocks.length
  · obtain⟨bb,off,A3,c3,A4,c4,rfl,hbb,hnz,hy0,hy1,hy2,hy3,hy4,hy5,hy6,l3,l4,k3,k4,r3,r4⟩:=r2.blk hWr hlt
    have hpt:=Yep HT.out hlt;have HPH:=Lh (fun k (hk:k<(F.blk n).phis.length)=>YdI HT.out hlt hk);have HIN:=Lh (fun k (hk:k<(F.blk n).insts.length)=>YdJ HT.out hlt hk);obtain⟨wq,rfl⟩:∃wq:World,wq=wr:=⟨_,rfl⟩;have hws:w.heap.size+1≤wq.heap.size:=by have:=hb.size;simpa using this
    go_wp2
    go_loopw[25] (fun i wr=>∃k:Nat,i=.int .i64 k∧k≤(F.blk n).phis.length∧Below (w.heap.size+1) wq wr∧BoxAt wr wq.heap.size #[.string (F.blk n).name,.slice A3 (F.blk n).phis.length c3,.slice A4 (F.blk n).insts.length c4,.int .i64 (F.blk n).term.kind,.int .i64 (F.blk n).term.var,.int .i64 (F.blk n).term.t0,.int .i64 (F.blk n).term.t1] 41∧OwnRowsE wr (w.heap.size+1) 163 203 2 Y8 (w.heap.size+1) (Yy F.vars.length (evs F n++evPhi F n k))) (fun i _=>(F.blk n).phis.length-(intOf i).toNat)
    case atStart=>exact⟨0,rfl,Nz _,(Br _ _).alloc hws _,BoxAt.new _ _ _,by rw[YfN,List.append_nil];exact hO.below BL⟩
    case round=>as_aux_lemma=>
     obtain⟨k,rfl,hk,hbk,hX,hOk⟩:=hrel;have hbr:=hb.trans hbk;have hBr:=hB.trans (hbk.mono (by have:=hB.size;omega));have hWi:Below W.heap.size W wr:=hW.trans (hBr.mono hWs);have hgl:=hOk.blk.2
     by_cases hkl:k<(F.blk n).phis.length
     · obtain⟨bp,op,A6,c6,A7,c7,rfl,hbp,hp0,hp1,hp2,l6,l7,k6,k7,-,-⟩:=r3.phi hWi hkl
       unfold Len at l6 l7;obtain⟨-,⟨d0,d1⟩,-⟩:=HPH.out k hkl;obtain⟨c,hc⟩:∃c:Nat,((F.blk n).phi k).dst=(c:Int):=⟨((F.blk n).phi k).dst.toNat,ZO⟩;rw[hc]at hp0 d1;have HS:=Lh (show Yy F.vars.length (evs F n++evPhi F n (k+1))=(Yy F.vars.length (evs F n++evPhi F n k)).set c ((Yy F.vars.length (evs F n++evPhi F n k)).getD c []++[((n:Int),-1)]) by rw[Yem,← List.append_assoc];exact Yhx (d:=c) hc);have hlc:((Yy F.vars.length (evs F n++evPhi F n k)).getD c []).length≤1024:=by
        rw[YdH ZO];refine Nat.le_trans Yen ?_;rw[List.length_append,Ycl];omega
       have hcl:c<(Yy F.vars.length (evs F n++evPhi F n k)).length:=by rw[YdG];omega
       have hbw:Below wr.heap.size wr (wr.alloc (.cells #[.int .i64 (c:Int),.slice A6 ((F.blk n).phi k).args.length c6,.slice A7 ((F.blk n).phi k).froms.length c7] 76)).drew:=BL;obtain⟨A,m,cv,A',cv',w3,e1,e2,e3,e4,e5,e6,e7,e8,e9⟩:=YhD (p:=((n:Int),-1)) (hOk.below hbw) (by have:=hBr.size;simp;omega) hcl hlc;replace e1:wr.cell? ⟨w.heap.size+1,c,none⟩=some (.slice A m cv):=(hbw.cell (p:=⟨w.heap.size+1,c,none⟩) hgl).symm.trans e1;replace e2:(Builtin.append_ #[163,163] 163 #[.slice A m cv,.slice (some ⟨wr.heap.size+1,0,none⟩) 1 1]).run Tryz.prog ((wr.alloc (.cells #[.int .i64 (c:Int),.slice A6 ((F.blk n).phi k).args.length c6,.slice A7 ((F.blk n).phi k).froms.length c7] 76)).alloc (.cells #[.int .i64 (n:Int),.int .i64 (-1)] 203)).drew=.ok (.slice A' (m+1) cv') w3:=by simp only[heap_drew,World.size_alloc]at e2;exact e2
       obtain⟨y0,-⟩:=e9 _ _ _ (BoxAt.drew (BoxAt.new _ _ _)) ZD ZD;have y1:=y0.cell 0;have y2:=y0.lt;replace y1:w3.cell? ⟨wr.heap.size,0,none⟩=some (.int .i64 (c:Int)):=y1;have E3:=Lh e3;have E7:=Lh e7;have E9:=Lh e9;have HX:=Lh hX;have HBK:=Lh hbk;have HBW:=Lh hbw;have hcn:(c:Int)<(F.vars.length:Int):=by omega
       clear e3 e7 e9 y0 hX hc hlc hcl hbk hbw hO hOk hy0 hy1 hy2 hy3 hy4 hy5 hy6 hnz;generalize ((F.blk n).phi k).args.length=la at *;generalize ((F.blk n).phi k).froms.length=lf at *;go_wp2_with fail;obtain⟨S0,hS0⟩:∃S0:World→Prop,S0=fun w'=>w'.cell? ⟨wr.heap.size,0,none⟩=some (.int .i64 (c:Int))∧w'.cell? ⟨w.heap.size+1,c,none⟩=some (.slice A m cv)∧wr.heap.size<w'.heap.size∧w.heap.size+1<w'.heap.size:=⟨_,rfl⟩
       have HS0:=Lh hS0;clear hS0;have k0:=fun xw=>(WS.at HS0 xw).1
       have k1:=fun xw=>(WS.at HS0 xw).2.1
       have k2:=fun xw=>(WS.at HS0 xw).2.2.1
       have k3:=fun xw=>(WS.at HS0 xw).2.2.2
       refine Yb0 (S:=S0) [13] ZK ?hS (fun hSc hcl=>?_)
       case hS=>
        rw[HS0.out];exact⟨ZI,ZI,ZJ,ZJ⟩
       have hne0:Nonempty (WS S0):=⟨⟨_,hSc⟩⟩;have hneT:Nonempty (WS (fun _=>True)):=match hne0 with|⟨x⟩=>⟨⟨x.w,trivial⟩⟩
       refine Ya5 [(0,0),(1,0),(2,0),(3,0),(4,0),(5,0),(6,0),(7,0),(8,0),(9,0),(10,1),(11,1),(12,0)] 1 rfl ZK (fun _ _ _ _ _ h=>h) hSc hcl ?_
       all_goals
        (try simp only[List.map_cons,List.map_nil,Ld,Le])
        repeat
         first
         |((with_reducible refine Ya6 ?_ ?_);exact rfl;dsimp only;go_big_quiet_step (fail);(try with_reducible refine wpQuiet_nil ?_);(try dsimp only))
         |((with_reducible refine Ya7 ?_ ?_);exact rfl;dsimp only;go_big_quiet_step (fail);(try with_reducible refine wpQuiet_nil ?_);(try dsimp only))
         |((with_reducible refine Ybe ?_ ?_ (fun K hK=>?_))
           exact rfl;exact rfl;dsimp only
           first
           |(refine Yc5 _ _ _ rfl rfl rfl e2 ?_;simp only[Act.put,La,Lz,Lc])
           |(go_simp)
           refine hK.out _ _ ?hS (fun hSc=>?_)
           case hS=>
            first
            |exact hSc
            |(rw[HS0.out]at hSc ⊢;obtain⟨p0,p1,p2,p3⟩:=hSc;exact⟨ZC0,ZC1,ZT2,ZT3⟩)
           clear hK K)
        (try(refine Ya8 ?_;intro hSc hcl))
       all_goals
        refine Yb1 [13] rfl ZK ?_;simp only[List.map_cons,List.map_nil,Ld,Le];rw[HS0.out]at hSc;obtain⟨p0,p1,p2,p3⟩:=hSc;clear hne0 hneT hcl HS0 k0 k1 k2 k3;go_wp2;go_roundw
        (case rel=>exact⟨k+1,ZN,ZO,(HBK.out.trans ((HBW.out.mono ZO).trans E7.out)).setCell (Nr _) _,(E9.out _ _ _ ((HX.out.alloc _).drew) ZD ZD).2,by rw[HS.out];exact E3.out⟩)
        (case measure=>simp[intOf];omega)
     · obtain rfl:k=(F.blk n).phis.length:=by omega
       have hx0:=hX.cell 2;have hxl:=hX.lt;replace hx0:wr.cell? ⟨wq.heap.size,2,none⟩=some (.slice A4 (F.blk n).insts.length c4):=hx0;clear hy0 hy1 hy2 hy3 hy4 hy5 hy6 hnz HPH;obtain⟨pl,hpl⟩:∃pl,pl=(F.blk n).phis.length:=⟨_,rfl⟩;rw[← hpl]at hOk hpt;have HPL:=Lh hpl;clear hpl;obtain⟨wp,rfl⟩:∃wp:World,wp=wr:=⟨_,rfl⟩;go_wp2;clear hx0 hxl
       go_loopw[46] (fun i wr=>∃k:Nat,i=.int .i64 k∧k≤(F.blk n).insts.length∧Below (w.heap.size+1) wq wr∧OwnRowsE wr (w.heap.size+1) 163 203 2 Y8 (w.heap.size+1) (Yy F.vars.length (evs F n++(evPhi F n pl++evIns F n k)))) (fun i _=>(F.blk n).insts.length-(intOf i).toNat)
       case atStart=>exact⟨0,rfl,Nz _,hbk,by rw[YfO,List.append_nil];exact hOk⟩
       case round=>as_aux_lemma=>
        clear hWi hBr hbr hbk hOk hX hgl;obtain⟨k,rfl,hk,hbk,hOk⟩:=hrel;have hbr:=hb.trans hbk;have hBr:=hB.trans (hbk.mono (by have:=hB.size;omega));have hWi:Below W.heap.size W wr:=hW.trans (hBr.mono hWs);have hgl:=hOk.blk.2
        by_cases hkl:k<(F.blk n).insts.length
        · obtain⟨bp,op,A6,c6,rfl,hbp,hp0,hp1,hp2,hp3,l6,k6,-⟩:=r4.inst hWi hkl
          unfold Len at l6;obtain⟨hd,-⟩:=HIN.out k hkl;rcases hd with hd|⟨d0,d1⟩
          · have HS:=Lh (show Yy F.vars.length (evs F n++(evPhi F n pl++evIns F n (k+1)))=Yy F.vars.length (evs F n++(evPhi F n pl++evIns F n k)) by rw[YdF,← List.append_assoc,← List.append_assoc,Yl2 hd,List.append_assoc])
            have hd':¬0≤((F.blk n).inst k).dst:=by omega
            have HBW:=Lh (show Below wr.heap.size wr (wr.alloc (.cells #[.int .i64 ((F.blk n).inst k).op,.int .i64 ((F.blk n).inst k).dst,.slice A6 ((F.blk n).inst k).args.length c6,.int .i64 ((F.blk n).inst k).num] 44))from BL);go_wp2;go_roundw
            case rel=>exact⟨k+1,ZN,ZO,hbk.trans (HBW.out.mono ZO),by rw[HS.out];exact hOk.below HBW.out⟩
            case measure=>simp[intOf];omega
          · obtain⟨c,hc⟩:∃c:Nat,((F.blk n).inst k).dst=(c:Int):=⟨((F.blk n).inst k).dst.toNat,ZO⟩
            rw[hc]at hp1 d1;have HS:=Lh (show Yy F.vars.length (evs F n++(evPhi F n pl++evIns F n (k+1)))=(Yy F.vars.length (evs F n++(evPhi F n pl++evIns F n k))).set c ((Yy F.vars.length (evs F n++(evPhi F n pl++evIns F n k))).getD c []++[((n:Int),(k:Int))]) by rw[YdF,← List.append_assoc,← List.append_assoc,List.append_assoc (evs F n)];exact Yhx (d:=c) hc);have hlc:((Yy F.vars.length (evs F n++(evPhi F n pl++evIns F n k))).getD c []).length≤1024:=by
             rw[YdH ZO];refine Nat.le_trans Yen ?_;rw[List.length_append,List.length_append,Ycl,Yc8];omega
            have hcl:c<(Yy F.vars.length (evs F n++(evPhi F n pl++evIns F n k))).length:=by rw[YdG];omega
            have hd':0≤(c:Int):=by omega
            have hbw:Below wr.heap.size wr (wr.alloc (.cells #[.int .i64 ((F.blk n).inst k).op,.int .i64 (c:Int),.slice A6 ((F.blk n).inst k).args.length c6,.int .i64 ((F.blk n).inst k).num] 44)).drew:=BL;obtain⟨A,m,cv,A',cv',w3,e1,e2,e3,e4,e5,e6,e7,e8,e9⟩:=YhD (p:=((n:Int),(k:Int))) (hOk.below hbw) (by have:=hBr.size;simp;omega) hcl hlc;replace e1:wr.cell? ⟨w.heap.size+1,c,none⟩=some (.slice A m cv):=(hbw.cell (p:=⟨w.heap.size+1,c,none⟩) hgl).symm.trans e1;replace e2:(Builtin.append_ #[163,163] 163 #[.slice A m cv,.slice (some ⟨wr.heap.size+1,0,none⟩) 1 1]).run Tryz.prog ((wr.alloc (.cells #[.int .i64 ((F.blk n).inst k).op,.int .i64 (c:Int),.slice A6 ((F.blk n).inst k).args.length c6,.int .i64 ((F.blk n).inst k).num] 44)).alloc (.cells #[.int .i64 (n:Int),.int .i64 (k:Int)] 203)).drew=.ok (.slice A' (m+1) cv') w3:=by simp only[heap_drew,World.size_alloc]at e2;exact e2
            obtain⟨y0,-⟩:=e9 _ _ _ (BoxAt.drew (BoxAt.new _ _ _)) ZD ZD;have y1:=y0.cell 1;have y2:=y0.lt;replace y1:w3.cell? ⟨wr.heap.size,1,none⟩=some (.int .i64 (c:Int)):=y1;have E3:=Lh e3;have E7:=Lh e7;have HBK:=Lh hbk;have HBW:=Lh hbw;have hcn:(c:Int)<(F.vars.length:Int):=by omega
            clear e3 e7 e9 y0 hc hlc hcl hbk hbw hOk;generalize ((F.blk n).inst k).args.length=la at *;generalize ((F.blk n).inst k).op=xo at *;generalize ((F.blk n).inst k).num=xn at *;go_wp2_with fail;obtain⟨S0,hS0⟩:∃S0:World→Prop,S0=fun w'=>w'.cell? ⟨wr.heap.size,1,none⟩=some (.int .i64 (c:Int))∧w'.cell? ⟨w.heap.size+1,c,none⟩=some (.slice A m cv)∧wr.heap.size<w'.heap.size∧w.heap.size+1<w'.heap.size:=⟨_,rfl⟩
            have HS0:=Lh hS0;clear hS0;have k0:=fun xw=>(WS.at HS0 xw).1
            have k1:=fun xw=>(WS.at HS0 xw).2.1
            have k2:=fun xw=>(WS.at HS0 xw).2.2.1
            have k3:=fun xw=>(WS.at HS0 xw).2.2.2
            refine Yb0 (S:=S0) [14] ZK ?hS (fun hSc hcl=>?_)
            case hS=>
             rw[HS0.out];exact⟨ZI,ZI,ZJ,ZJ⟩
            have hne0:Nonempty (WS S0):=⟨⟨_,hSc⟩⟩;have hneT:Nonempty (WS (fun _=>True)):=match hne0 with|⟨x⟩=>⟨⟨x.w,trivial⟩⟩
            refine Ya5 [(0,0),(1,0),(2,0),(3,0),(4,0),(5,0),(6,0),(7,0),(8,0),(9,0),(10,0),(11,1),(12,1),(13,0)] 1 rfl ZK (fun _ _ _ _ _ h=>h) hSc hcl ?_
            all_goals
             (try simp only[List.map_cons,List.map_nil,Ld,Le])
             repeat
              first
              |((with_reducible refine Ya6 ?_ ?_);exact rfl;dsimp only;go_big_quiet_step (fail);(try with_reducible refine wpQuiet_nil ?_);(try dsimp only))
              |((with_reducible refine Ya7 ?_ ?_);exact rfl;dsimp only;go_big_quiet_step (fail);(try with_reducible refine wpQuiet_nil ?_);(try dsimp only))
              |((with_reducible refine Ybe ?_ ?_ (fun K hK=>?_))
                exact rfl;exact rfl;dsimp only
                first
                |(refine Yc5 _ _ _ rfl rfl rfl e2 ?_;simp only[Act.put,La,Lz,Lc])
                |(go_simp)
                refine hK.out _ _ ?hS (fun hSc=>?_)
                case hS=>
                 first
                 |exact hSc
                 |(rw[HS0.out]at hSc ⊢;obtain⟨p0,p1,p2,p3⟩:=hSc;exact⟨ZC0,ZC1,ZT2,ZT3⟩)
                clear hK K)
             (try(refine Ya8 ?_;intro hSc hcl))
            all_goals
             refine Yb1 [14] rfl ZK ?_;simp only[List.map_cons,List.map_nil,Ld,Le];rw[HS0.out]at hSc;obtain⟨p0,p1,p2,p3⟩:=hSc;clear hne0 hneT hcl HS0 k0 k1 k2 k3;go_wp2;go_roundw
             (case rel=>exact⟨k+1,ZN,ZO,(HBK.out.trans ((HBW.out.mono ZO).trans E7.out)).setCell (Nr _) _,by rw[HS.out];exact E3.out⟩)
             (case measure=>simp[intOf];omega)
        · obtain rfl:k=(F.blk n).insts.length:=by omega
          go_wp2;go_roundw
          case rel=>exact⟨n+1,ZN,ZO,hbr,by rw[evs,Yah,← HPL.out];exact hOk⟩
          case measure=>simp[intOf];omega
  · obtain rfl:n=F.blocks.length:=by omega
    go_wp2;go_ret;exact⟨_,_,rfl,Nat.le_succ _,hO,hB⟩
theorem YcB{p:Nat→Bool}{n i:Nat}(hi:i<n)(h:p i=false):(List.range n).all p=false:=by
 rw[← Bool.not_eq_true,List.all_eq_true];intro hh;have:=hh i (by simpa using hi);rw[h]at this;cases this
theorem YcC{p:Nat→Bool}{n:Nat}(h:∀i,i<n→p i=true):(List.range n).all p=true:=by
 rw[List.all_eq_true];intro i hi;exact h i (by simpa using hi)
set_option maxHeartbeats 4000000 in
theorem Yma{W w:World}{fv:Value}{F:PFunc}(hF:FnV W W.heap.size fv F)(hW:Below W.heap.size W w)(hT:Yd F=true) :
 Calls Tryz.prog 113 #[fv] w fun e w'=>e=.returned (.bool (Yr F))∧Below w.heap.size w w':=by
 have hmk:=fun(w':World) (h:Below W.heap.size W w')=>YhE hF h hT
 have nv:=Yb5 hT;clear hT;obtain⟨A0,c0,A1,c1,A2,c2,rfl,l0,l1,l2,-,-,-,-,-,-⟩:=id hF.open_;unfold Len at *;have hWs:=hW.size;have hb0:=(Br w.heap.size w).alloc (Nr _) (.cells #[.slice A0 F.vars.length c0,.slice A1 F.params.length c1,.slice A2 F.blocks.length c2] 26);have HN:=Lh (fun n (hn:n<F.vars.length) (h:onceAt F n=false)=>show Yr F=false from YcB hn h);have HY:=Lh (fun(h:∀n,n<F.vars.length→onceAt F n=true)=>show Yr F=true from YcC h);go_enter Tryz.func113,Tryz.ntmps113;go_wp2_with(go_at_call 150;refine(hmk _ BL).mono ?_;rintro e w5 ⟨g,B,rfl,hB5,hO5,hb5⟩);have hX5:Below (w.heap.size+1) (w.alloc (.cells #[.slice A0 F.vars.length c0,.slice A1 F.params.length c1,.slice A2 F.blocks.length c2] 26)) w5:=by simpa using hb5
 clear hb5 hmk
 go_loopw[8] (fun i wr=>∃n:Nat,i=.int .i64 n∧n≤F.vars.length∧Hid (∀m,m<n→onceAt F m=true)∧Below w5.heap.size w5 wr) (fun i _=>F.vars.length-(intOf i).toNat)
 case atStart=>exact⟨0,rfl,Nz _,fun m hm=>absurd hm (Nat.not_lt_zero _),Br _ _⟩
 case round=>as_aux_lemma=>
  obtain⟨n,rfl,hn,HA,hb⟩:=hrel;have hXr:=hX5.trans (hb.mono (by have:=hX5.size;simpa using this));have hBr:=hb0.trans (hXr.mono (Nat.le_succ _))
  by_cases hlt:n<F.vars.length
  · obtain⟨v,hcv,hown⟩:=(hO5.below hb).at_ (c:=n) (by rw[YdG];exact hlt)
    have hgl:=(hO5.below hb).blk.2;rw[YdH hlt]at hown;obtain⟨A,c,rfl⟩:=Yp hown;obtain⟨q,q0,q1,q2⟩:=Yn hXr;have HD:=Lh (show onceAt F n=!(decide (1<(mkOf (evF F) (n:Int)).length)||decide (0<(mkOf (evF F) (n:Int)).length)&&decide (n<F.params.length))from rfl);have HNn:=Lh (fun h=>HN.out n hlt h);generalize (mkOf (evF F) (n:Int)).length=m at *;have fn:(n:Int)<(F.vars.length:Int):=by omega
    clear hown hO5 hn
    by_cases h1:1<m
    · have h1':1<(m:Int):=by omega
      have HZ:=Lh (HNn.out (by rw[HD.out];simp[h1]));clear h1;go_wp2;go_ret;exact⟨Yb HZ.out.symm,hBr⟩
    · have h1':¬1<(m:Int):=by omega
      by_cases h2:0<m
      · have h2':0<(m:Int):=by omega
        by_cases h3:n<F.params.length
        · have h3':(n:Int)<(F.params.length:Int):=by omega
          have HZ:=Lh (HNn.out (by rw[HD.out];simp[h2,h3]));clear h1 h2 h3;go_wp2;go_ret;exact⟨Yb HZ.out.symm,hBr⟩
        · have h3':¬(n:Int)<(F.params.length:Int):=by omega
          have HZ:=Lh (show onceAt F n=true by rw[HD.out];simp[h1,h3]);clear h1 h2 h3;go_wp2;go_roundw
          case rel=>exact⟨n+1,ZN,ZO,fun m hm=>if h:m<n then HA.out m h else by
           obtain rfl:m=n:=by omega
           exact HZ.out,hb⟩
          case measure=>simp[intOf];omega
      · have h2':¬0<(m:Int):=by omega
        have HZ:=Lh (show onceAt F n=true by rw[HD.out];simp[h1,h2]);clear h1 h2;go_wp2;go_roundw
        case rel=>exact⟨n+1,ZN,ZO,fun m hm=>if h:m<n then HA.out m h else by
         obtain rfl:m=n:=by omega
         exact HZ.out,hb⟩
        case measure=>simp[intOf];omega
  · obtain rfl:n=F.vars.length:=by omega
    have HZ:=Lh (HY.out HA.out);go_wp2;go_ret;exact⟨Yb HZ.out.symm,hBr⟩
end Go.Proofs.YtjlclkcmfokobaaGreatDoor
