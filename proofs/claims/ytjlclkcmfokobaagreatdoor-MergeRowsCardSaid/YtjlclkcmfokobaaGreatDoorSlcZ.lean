/- Rows of numbers by the library: Clone, Sort, Equal, in all their forms. -/
import Derived.Test.YtjlclkcmfokobaaGreatDoorOrderZ
import Derived.Test.YtjlclkcmfokobaaGreatDoorShelfZ
import Derived.Test.YtjlclkcmfokobaaGreatDoorRefRZ
import Derived.Lib.OwnBridge
import Derived.Test.YtjlclkcmfokobaaGreatDoorTreePZ
import Derived.Sort.OwnSortedInts
import Derived.Test.YtjlclkcmfokobaaGreatDoorPredsZ
namespace Go.Proofs.YtjlclkcmfokobaaGreatDoor
open Go.RowKit Go.Sort
set_option maxRecDepth 100000
theorem Rd.at_int{B:Nat}{w:World}{A:Option Addr}{xs:List Int}(h:Rd B A xs 1 (Yk w))(hx:xs≠[]):∃b off,A=some ⟨b,off,none⟩∧b<B∧∀j,j<xs.length→w.cell? ⟨b,off+j,none⟩=some (.int .i64 (xs.getD j 0)):=by
 obtain⟨b,off,ha,hb,-⟩:=h 0 _ (Ybz (List.length_pos_iff.2 hx));refine⟨b,off,ha,hb,fun j hj=>?_⟩;obtain⟨b',off',ha',-,hr⟩:=h j _ (Ybz hj);rw[ha]at ha';cases ha';simpa[Yk,ith]using hr
theorem Ycz{B:Nat}{w:World}{A:Option Addr}{c:Nat}{xs:List Int}(hr:Rd B A xs 1 (Yk w))(hl:xs.length≤17592186044416) :
 Calls Tryz.prog 79 #[.slice A xs.length c] w fun e w'=>∃v',e=.returned v'∧w'.ownsRow w.heap.size 3 1 v' xs.length (xs.map (Value.int .i64))∧Below w.heap.size w w':=by
 by_cases hx:xs=[]
 · subst hx
   cases A with
   |none=>
    refine(Tryz.slices_Clone_int_nil 0 c w).mono ?_;rintro e w' ⟨rfl,rfl⟩;exact⟨_,rfl,World.ownsRow_nil _ _ _ _,Br _ _⟩
   |some a=>
    refine(Tryz.slices_Clone_int_zero a c w).mono ?_;rintro e w' ⟨v',rfl,h,-,hb⟩;exact⟨_,rfl,h,hb⟩
 · obtain⟨b,off,rfl,hb,hc⟩:=hr.at_int hx
   refine(Tryz.slices_Clone_int b off xs.length c xs w (Nr _) ZO hc).mono ?_;rintro e w' ⟨v',rfl,h,-,hb⟩;rw[List.take_length]at h;exact⟨_,rfl,h,hb⟩
def Ya0(xs:List Int):List Int:=xs.mergeSort fun x y=>decide (x≤y)
theorem Yc6{xs:List Int}:(Ya0 xs).length=xs.length:=List.length_mergeSort _
theorem YfJ{B:Nat}{a w:World}{os:Array Obj}(h:Below B a w)(hB:B≤w.heap.size):Below B a (grow w os):=by
 refine⟨h.os,h.tape,h.output,by have:=h.size;simp[grow];omega,fun k hk=>?_⟩;rw[← h.block k hk];simp only[grow];rw[Array.getElem?_append_left ZO]
theorem YlH{base n:Nat}{w:World}{v:Value}{xs:List Int}(h:w.ownsRow base 3 1 v n (xs.map (Value.int .i64)))(hn:n≤1048576) :
 Calls Tryz.prog 69 #[v] w fun e w'=>e=.returned (.tuple #[])∧w'.ownsRow base 3 1 v n ((Ya0 xs).map (Value.int .i64))∧∀B a,Below B a w→B≤base→Below B a w':=by
 have hl:xs.length=n:=by simpa using h.1
 by_cases hx:v=.slice none 0 0
 · subst hx
   have hn0:n=0:=by
    rcases h.2 with⟨-,e⟩|⟨g,cap,cur,hv,-⟩
    · exact e
    · cases hv
   subst hn0;obtain rfl:=List.eq_nil_of_length_eq_zero hl;refine(Tryz.slices_Sort_int_none none 0 w).mono ?_;rintro e w' ⟨rfl,rfl⟩;exact⟨rfl,by simpa[Ya0]using h,fun B a hb _=>hb⟩
 · obtain⟨g,cap,rfl,hg,hgl,hc,hcm,-,hH⟩:=Lib.holds_of_ownsRow h hx
   have hs:=Tryz.slices_Sort_int g 0 cap xs w hH hgl ZO;rw[hl]at hs;refine hs.mono ?_;rintro e w' ⟨rfl,q,os,rfl⟩;have h9:=Lib.ownsRow_putRow (q:=q) h (ys:=Ya0 xs) (by rw[Yc6,hl]) (Nr _);rw[List.take_of_length_le (by rw[Yc6,hl];exact Nr _)]at h9;refine⟨rfl,Yu h9 (YfJ (Br _ _) (Nr _)),fun B a hb hB=>YfJ (Lib.below_putRow hb ZO) ZX⟩
theorem YlI{B1 B2:Nat}{w:World}{A1 A2:Option Addr}{c1 c2:Nat}{xs ys:List Int}(h1:Rd B1 A1 xs 1 (Yk w))(h2:Rd B2 A2 ys 1 (Yk w))(hl1:Len xs.length)(hl2:Len ys.length) :
 Calls Tryz.prog 183 #[.slice A1 xs.length c1,.slice A2 ys.length c2] w fun e w'=>e=.returned (.bool (decide (xs=ys)))∧Below w.heap.size w w':=by
 unfold Len at *
 by_cases hn:xs.length=ys.length
 · by_cases hx:xs=[]
   · subst hx
     refine(Tryz.slices_Equal_int_empty A1 A2 c1 ys.length c2 w ZO).mono ?_;rintro e w' ⟨rfl,rfl⟩;refine⟨?_,Br _ _⟩;obtain rfl:=List.eq_nil_of_length_eq_zero hn.symm;simp
   · have hy:ys≠[]:=fun e=>by subst e;exact hx (List.eq_nil_of_length_eq_zero hn)
     obtain⟨b,off,rfl,-,hc⟩:=h1.at_int hx;obtain⟨b',off',rfl,-,hc'⟩:=h2.at_int hy;refine(Tryz.slices_Equal_int b off xs.length c1 b' off' ys.length c2 xs ys w (Nr _) (Nr _) ZO ZO hc hc').mono ?_;rintro e w' ⟨rfl,q,rfl⟩;refine⟨?_,bdrewN (Br _ _) _⟩;rw[List.take_length,List.take_length];exact Yb (by rw[Bool.eq_iff_iff];simp)
 · refine(Tryz.slices_Equal_int_lens A1 A2 xs.length c1 ys.length c2 w hn).mono ?_
   rintro e w' ⟨rfl,rfl⟩;exact⟨Yb (by rw[eq_comm,decide_eq_false_iff_not];exact fun e=>hn (by rw[e])),Br _ _⟩
theorem YlJ{B1 B2 n m:Nat}{w:World}{A1 A2:Option Addr}{c1 c2:Nat}{xs ys:List Int}(h1:Rd B1 A1 xs 1 (Yk w))(h2:Rd B2 A2 ys 1 (Yk w))(hn:xs.length=n)(hm:ys.length=m)(hl1:Len n)(hl2:Len m) :
 Calls Tryz.prog 183 #[.slice A1 n c1,.slice A2 m c2] w fun e w'=>e=.returned (.bool (decide (xs=ys)))∧Below w.heap.size w w':=by
 subst hn hm;exact YlI h1 h2 hl1 hl2
end Go.Proofs.YtjlclkcmfokobaaGreatDoor
namespace Go.Proofs.YtjlclkcmfokobaaGreatDoor
open Go.RowKit Go.Sort
set_option maxRecDepth 100000
structure Only (g:Nat) (wk wr:World):Prop where
 hb:Below g wk wr
 kp:∀k,k<wk.heap.size→k≠g→wr.heap[k]?=wk.heap[k]?
section
variable {g:Nat} {wk wr w' w3:World} {B gf n i c:Nat} {X:List (List Int)}
theorem Only.refl(g:Nat)(w:World):Only g w w:=⟨Br _ _,fun _ _ _=>rfl⟩
theorem Only.below(h:Only g wk wr)(hg:g<wk.heap.size)(hb:Below wr.heap.size wr w'):Only g wk w':=
 ⟨h.hb.trans (hb.mono (by have:=h.hb.size;omega)),fun k hk hne=>(hb.block k (by have:=h.hb.size;omega)).trans (h.kp k hk hne)⟩
theorem Only.cell(h:Only g wk wr){b o:Nat}(hb:b<wk.heap.size)(hne:b≠g):wr.cell? ⟨b,o,none⟩=wk.cell? ⟨b,o,none⟩:=World.cell?_of_block (h.kp b hb hne)
theorem Only.rowO(h:Only g wk wr){r:Nat}{L:List (Option Nat)}(hr:RowO wk r L)(hne:r≠g):RowO wr r L:=
 ⟨Nt hr.1 h.hb.size,fun j hj=>(h.cell hr.1 hne).trans (hr.2 j hj)⟩
theorem YlK{base n:Nat}{w:World}{v:Value}{xs:List Int}(h:w.ownsRow base 3 1 v n (xs.map (Value.int .i64)))(hn:n≤1048576) :
 Calls Tryz.prog 69 #[v] w fun e w'=>e=.returned (.tuple #[])∧w'.ownsRow base 3 1 v n ((Ya0 xs).map (Value.int .i64))∧w.grownBy w' v.ownBlock:=by
 have hl:xs.length=n:=by simpa using h.1
 by_cases hx:v=.slice none 0 0
 · subst hx
   have hn0:n=0:=by
    rcases h.2 with⟨-,e⟩|⟨g,cap,cur,hv,-⟩
    · exact e
    · cases hv
   subst hn0;obtain rfl:=List.eq_nil_of_length_eq_zero hl;refine(Tryz.slices_Sort_int_none none 0 w).mono ?_;rintro e w' ⟨rfl,rfl⟩;exact⟨rfl,by simpa[Ya0]using h,World.grownBy.refl _ _⟩
 · obtain⟨g,cap,rfl,hg,hgl,hc,hcm,-,hH⟩:=Lib.holds_of_ownsRow h hx
   have hs:=Tryz.slices_Sort_int g 0 cap xs w hH hgl ZO;rw[hl]at hs;refine hs.mono ?_;rintro e w' ⟨rfl,q,os,rfl⟩;have h9:=Lib.ownsRow_putRow (q:=q) h (ys:=Ya0 xs) (by rw[Yc6,hl]) (Nr _);rw[List.take_of_length_le (by rw[Yc6,hl];exact Nr _)]at h9;exact⟨rfl,Yu h9 (YfJ (Br _ _) (Nr _)),grownBy_sortedI _⟩
structure T2 (wk wr:World) (B n gf:Nat) (X:List (List Int)):Prop where
 o:Only gf wk wr
 x:OwnRows wr B 23 3 gf (fun k=>k<wk.heap.size) X
theorem T2.below(h:T2 wk wr B n gf X)(hg:gf<wk.heap.size)(hb:Below wr.heap.size wr w'):T2 wk w' B n gf X:=⟨h.o.below hg hb,h.x.below hb⟩
theorem T2.add(h:T2 wk wr B n gf X)(hg:gf<wk.heap.size)(hc:c<X.length){v v':Value}(hv:wr.cell? ⟨gf,c,none⟩=some v)
 (hown:w3.ownsRow B 3 1 v' ((X.getD c []).length+1) ((X.getD c []).map (Value.int .i64)++[.int .i64 (i:Int)])) (hgr:(wr.alloc (.cells #[.int .i64 (i:Int)] 3)).grownBy w3 v.ownBlock)
 (hfr:∀k,v'.ownBlock=some k→v.ownBlock=some k∨wr.heap.size<k) :
 T2 wk (w3.setCell ⟨gf,c,none⟩ v') B n gf (X.set c (X.getD c []++[(i:Int)]))∧w3.cell? ⟨gf,c,none⟩=some v∧w3.frozen? ⟨gf,c,none⟩=false∧gf<w3.heap.size∧Only gf wk w3:=by
 have hrow:=h.x.row hc hv;have hsz:=h.o.hb.size;obtain⟨h1,h2⟩:=h.x.step ZD hc hv hown hgr hfr (fun k hk ha=>ZO);obtain⟨m1,m2,m3⟩:=h.x.mid ZD hc hv hgr;have kept:∀k,k<wk.heap.size→w3.heap[k]?=wr.heap[k]?:=fun k hk=>(hgr.block k ZX (fun e=>hrow.2 k e.symm hk)).trans (Below.heap_alloc wr _ k ZO)
 have o3:Only gf wk w3:=⟨(h.o.hb.alloc ZO _).grown hgr ZX (fun k hk=>by have:=hrow.2 k hk;omega),fun k hk hne=>(kept k hk).trans (h.o.kp k hk hne)⟩;refine⟨⟨⟨o3.hb.setCell (p:=⟨gf,c,none⟩) (Nr _) _,fun k hk hne=>?_⟩,h1⟩,m1,m2,m3,o3⟩;rw[Below.heap_setCell _ _ _ _ (by simpa using hne)];exact o3.kp k hk hne
end
end Go.Proofs.YtjlclkcmfokobaaGreatDoor
namespace Go.Proofs.YtjlclkcmfokobaaGreatDoor
open Go.RowKit
set_option maxRecDepth 100000
structure Kp (D:Nat→Prop) (w w':World):Prop where
 os:w'.os=w.os
 tape:w'.tape=w.tape
 output:w'.output=w.output
 size:w.heap.size≤w'.heap.size
 blk:∀k,D k→k<w.heap.size→w'.heap[k]?=w.heap[k]?
section
variable {D D':Nat→Prop} {a w w':World} {B:Nat}
theorem Kp.refl:Kp D w w:=⟨rfl,rfl,rfl,Nr _,fun _ _ _=>rfl⟩
theorem Kp.trans(h:Kp D a w)(h':Kp D w w'):Kp D a w':=
 ⟨h'.os.trans h.os,h'.tape.trans h.tape,h'.output.trans h.output,Nat.le_trans h.size h'.size,fun k hk hl=>(h'.blk k hk (Nt hl h.size)).trans (h.blk k hk hl)⟩
theorem Kp.mono(h:Kp D w w')(hD:∀k,k<w.heap.size→D' k→D k):Kp D' w w':=⟨h.os,h.tape,h.output,h.size,fun k hk hl=>h.blk k (hD k hl hk) hl⟩
theorem Kp.below(h:Below B w w')(hD:∀k,k<w.heap.size→D k→k<B):Kp D w w':=⟨h.os,h.tape,h.output,h.size,fun k hk hl=>h.block k (hD k hl hk)⟩
theorem Kp.to_below(h:Kp D w w')(hD:∀k,k<B→D k)(hB:B≤w.heap.size):Below B w w':=⟨h.os,h.tape,h.output,h.size,fun k hk=>h.blk k (hD k hk) (Nt hk hB)⟩
theorem Kp.alloc(h:Kp D a w)(o:Obj):Kp D a (w.alloc o):=h.trans (Kp.below ((Br w.heap.size w).alloc (Nr _) o) (fun _ h _=>h))
theorem Kp.drew(h:Kp D a w):Kp D a w.drew:=h.trans ⟨rfl,rfl,rfl,Nr _,fun _ _ _=>rfl⟩
theorem Kp.drewN(h:Kp D a w)(n:Nat):Kp D a (w.drewN n):=h.trans ⟨rfl,rfl,rfl,Nr _,fun _ _ _=>rfl⟩
theorem Kp.setCell(h:Kp D a w){p:Addr}(hp:¬D p.block)(v:Value):Kp D a (w.setCell p v):=
 h.trans ⟨rfl,rfl,rfl,ZS,fun k hk _=>Below.heap_setCell _ _ _ _ (fun e=>hp (e▸hk))⟩
theorem Kp.grown{r:Option Nat}(h:Kp D a w)(hg:w.grownBy w' r)(hr:∀k,r=some k→¬D k):Kp D a w':=
 h.trans ⟨hg.os,hg.tape,hg.output,hg.size,fun k hk hl=>hg.block k hl (fun e=>hr k e.symm hk)⟩
theorem Kp.cell(h:Kp D w w'){b o:Nat}(hb:D b)(hl:b<w.heap.size):w'.cell? ⟨b,o,none⟩=w.cell? ⟨b,o,none⟩:=World.cell?_of_block (a:=⟨b,o,none⟩) (h.blk b hb hl)
end
def BoxAt(w:World)(g:Nat)(cs:Array Value)(t:TypeId):Prop:=w.heap[g]?=some (.cells cs t (0,0))
section
variable {w w':World} {g:Nat} {cs:Array Value} {t:TypeId}
theorem BoxAt.lt(h:BoxAt w g cs t):g<w.heap.size:=(Array.getElem?_eq_some_iff.1 h).1
theorem BoxAt.cell(h:BoxAt w g cs t)(j:Nat):w.cell? ⟨g,j,none⟩=cs[j]?:=cell_of_row w g j cs t (0,0) h
theorem BoxAt.frozen(h:BoxAt w g cs t)(j:Nat):w.frozen? ⟨g,j,none⟩=false:=by
 unfold BoxAt at h;simp[World.frozen?,h]
theorem BoxAt.new(w:World)(cs:Array Value)(t:TypeId):BoxAt (w.alloc (.cells cs t)) w.heap.size cs t:=heap_alloc_new w (.cells cs t)
theorem BoxAt.drew(h:BoxAt w g cs t):BoxAt w.drew g cs t:=h
theorem BoxAt.drewN(h:BoxAt w g cs t)(n:Nat):BoxAt (w.drewN n) g cs t:=h
theorem BoxAt.alloc(h:BoxAt w g cs t)(o:Obj):BoxAt (w.alloc o) g cs t:=(heap_alloc_old w o h.lt).trans h
theorem BoxAt.kp{D:Nat→Prop}(h:BoxAt w g cs t)(hk:Kp D w w')(hD:D g):BoxAt w' g cs t:=(hk.blk g hD h.lt).trans h
theorem BoxAt.below{B:Nat}(h:BoxAt w g cs t)(hk:Below B w w')(hD:g<B):BoxAt w' g cs t:=(hk.block g hD).trans h
theorem BoxAt.grown{r:Option Nat}(h:BoxAt w g cs t)(hg:w.grownBy w' r)(hr:r≠some g):BoxAt w' g cs t:=(hg.block g h.lt (fun e=>hr e.symm)).trans h
theorem BoxAt.set(h:BoxAt w g cs t)(j:Nat)(v:Value):BoxAt (w.setCell ⟨g,j,none⟩ v) g (cs.setIfInBounds j v) t:=by
 unfold BoxAt at *;simp[World.setCell,Array.getElem?_modify,h]
theorem BoxAt.other(h:BoxAt w g cs t){p:Addr}(hp:p.block≠g)(v:Value):BoxAt (w.setCell p v) g cs t:=by
 unfold BoxAt at *;rw[Below.heap_setCell _ _ _ _ (fun e=>hp e.symm)];exact h
theorem BoxAt.set3{x y z a b c:Value}(h:BoxAt w g #[x,y,z] t):BoxAt (((w.setCell ⟨g,0,none⟩ a).setCell ⟨g,1,none⟩ b).setCell ⟨g,2,none⟩ c) g #[a,b,c] t:=by
 simpa using((h.set 0 a).set 1 b).set 2 c
theorem Yci{p:Addr}{k:Nat}{v:Value}(h:k≠p.block):(w.setCell p v).heap[k]?=w.heap[k]?:=Below.heap_setCell _ _ _ _ h
theorem Yek{a b c:Value}{k:Nat}(h:k≠g):(((w.setCell ⟨g,0,none⟩ a).setCell ⟨g,1,none⟩ b).setCell ⟨g,2,none⟩ c).heap[k]?=w.heap[k]?:=
 (Yci h).trans ((Yci h).trans (Yci h))
theorem Yel{base e sz n:Nat}{v:Value}{xs:List Value}(h:w.ownsRow base e sz v n xs)(hk:∀k,v.ownBlock=some k→w'.heap[k]?=w.heap[k]?):w'.ownsRow base e sz v n xs:=by
 refine⟨h.1,?_⟩;rcases h.2 with h|⟨g,cap,cur,hv,hb,hh,r⟩
 · exact .inl h
 · exact .inr ⟨g,cap,cur,hv,hb,by rw[hk g (by rw[hv];rfl)];exact hh,r⟩
theorem Ycj{B base e sz n:Nat}{v:Value}{xs:List Value}(h:w.ownsRow base e sz v n xs)(hB:B≤base):w.ownsRow B e sz v n xs:=by
 refine⟨h.1,?_⟩;rcases h.2 with h|⟨g,cap,cur,hv,hb,r⟩
 · exact .inl h
 · exact .inr ⟨g,cap,cur,hv,Nat.le_trans hB hb,r⟩
theorem YfK{base e sz n cap:Nat}{xs:List Value}(h:w.ownsRow base e sz (.slice (some ⟨g,0,none⟩) n cap) n xs):∃cur,BoxAt w g cur e:=by
 rcases h.2 with⟨hv,_⟩|⟨g',cap',cur,hv,_,hh,_⟩
 · cases hv
 · cases hv
   exact⟨cur,hh⟩
end
def DRow{α:Type}(w:World)(D:Nat→Prop)(sz:Nat)(C:List Value→α→Prop)(v:Value)(xs:List α):Prop:=
 ∃A c,v=.slice A xs.length c∧Len xs.length∧xs.length≤c∧∀i x,xs[i]?=some x→∃b off cs,A=some ⟨b,off,none⟩∧D b∧b<w.heap.size∧cs.length=sz∧(∀j u,cs[j]?=some u→w.cell? ⟨b,off+i*sz+j,none⟩=some u)∧C cs x
def Tr(D D':Nat→Prop)(w w':World):Prop:=w.heap.size≤w'.heap.size∧∀b,D b→b<w.heap.size→w'.heap[b]?=w.heap[b]?∧D' b
theorem Kp.tr{D D':Nat→Prop}{w w':World}(h:Kp D w w')(hD:∀b,b<w.heap.size→D b→D' b):Tr D D' w w':=⟨h.size,fun b hb hl=>⟨h.blk b hb hl,hD b hl hb⟩⟩
theorem Tr.mono{D D':Nat→Prop}{w:World}(hD:∀b,b<w.heap.size→D b→D' b):Tr D D' w w:=⟨Nr _,fun b hb hl=>⟨rfl,hD b hl hb⟩⟩
theorem DRow.turn{α:Type}{w w':World}{D D':Nat→Prop}{sz:Nat}{C C':List Value→α→Prop}{v:Value}{xs:List α}(h:DRow w D sz C v xs)(ht:Tr D D' w w')(hC:∀cs x,C cs x→C' cs x):DRow w' D' sz C' v xs:=by
 obtain⟨A,c,rfl,hl,hc,hr⟩:=h;refine⟨A,c,rfl,hl,hc,fun i x hx=>?_⟩;obtain⟨b,off,cs,ha,hb,hbl,hcs,hcells,hx⟩:=hr i x hx;refine⟨b,off,cs,ha,(ht.2 b hb hbl).2,Nt hbl ht.1,hcs,fun j u hu=>?_,hC _ _ hx⟩;exact(World.cell?_of_block (a:=⟨b,off+i*sz+j,none⟩) (ht.2 b hb hbl).1).trans (hcells j u hu)
def YlL(cs:List Value)(x:Int):Prop:=cs=[.int .i64 x]
def DInts(w:World)(D:Nat→Prop)(v:Value)(xs:List Int):Prop:=DRow w D 1 YlL v xs
def Ybr(cs:List Value)(x:YaE):Prop:=x.name.size≤maxLen∧cs=[.string x.name,.int .i64 x.ty]
def DVars(w:World)(D:Nat→Prop)(v:Value)(xs:List YaE):Prop:=DRow w D 2 Ybr v xs
def CPhi(w:World)(D:Nat→Prop)(cs:List Value)(x:PPhi):Prop:=∃v1 v2,cs=[.int .i64 x.dst,v1,v2]∧DInts w D v1 x.args∧DInts w D v2 x.froms
def DPhis(w:World)(D:Nat→Prop)(v:Value)(xs:List PPhi):Prop:=DRow w D 3 (CPhi w D) v xs
def CInst(w:World)(D:Nat→Prop)(cs:List Value)(x:PInst):Prop:=∃v1,cs=[.int .i64 x.op,.int .i64 x.dst,v1,.int .i64 x.num]∧DInts w D v1 x.args
def DInsts(w:World)(D:Nat→Prop)(v:Value)(xs:List PInst):Prop:=DRow w D 4 (CInst w D) v xs
def CBlk(w:World)(D:Nat→Prop)(cs:List Value)(x:PBlock):Prop:=∃v1 v2,cs=[.string x.name,v1,v2,.int .i64 x.term.kind,.int .i64 x.term.var,.int .i64 x.term.t0,.int .i64 x.term.t1]∧x.name.size≤maxLen∧DPhis w D v1 x.phis∧DInsts w D v2 x.insts
def DBlks(w:World)(D:Nat→Prop)(v:Value)(xs:List PBlock):Prop:=DRow w D 7 (CBlk w D) v xs
section
variable {D D':Nat→Prop} {w w':World} {v:Value} {cs:List Value}
theorem DInts.turn{xs:List Int}(h:DInts w D v xs)(ht:Tr D D' w w'):DInts w' D' v xs:=DRow.turn h ht fun _ _ h=>h
theorem DVars.turn{xs:List YaE}(h:DVars w D v xs)(ht:Tr D D' w w'):DVars w' D' v xs:=DRow.turn h ht fun _ _ h=>h
theorem CPhi.turn{x:PPhi}(h:CPhi w D cs x)(ht:Tr D D' w w'):CPhi w' D' cs x:=by
 obtain⟨v1,v2,e,h1,h2⟩:=h;exact⟨v1,v2,e,h1.turn ht,h2.turn ht⟩
theorem CInst.turn{x:PInst}(h:CInst w D cs x)(ht:Tr D D' w w'):CInst w' D' cs x:=by
 obtain⟨v1,e,h1⟩:=h;exact⟨v1,e,h1.turn ht⟩
theorem DPhis.turn{xs:List PPhi}(h:DPhis w D v xs)(ht:Tr D D' w w'):DPhis w' D' v xs:=DRow.turn h ht fun _ _ h=>h.turn ht
theorem DInsts.turn{xs:List PInst}(h:DInsts w D v xs)(ht:Tr D D' w w'):DInsts w' D' v xs:=DRow.turn h ht fun _ _ h=>h.turn ht
theorem CBlk.turn{x:PBlock}(h:CBlk w D cs x)(ht:Tr D D' w w'):CBlk w' D' cs x:=by
 obtain⟨v1,v2,e,hn,h1,h2⟩:=h;exact⟨v1,v2,e,hn,h1.turn ht,h2.turn ht⟩
theorem DBlks.turn{xs:List PBlock}(h:DBlks w D v xs)(ht:Tr D D' w w'):DBlks w' D' v xs:=DRow.turn h ht fun _ _ h=>h.turn ht
theorem DRow.rd{α:Type}{B sz:Nat}{C:List Value→α→Prop}{xs:List α}{R:Nat→Nat→α→Prop}(h:DRow w D sz C v xs)(hD:∀b,b<w.heap.size→D b→b<B)
 (hR:∀b o cs x,b<B→cs.length=sz→(∀j u,cs[j]?=some u→w.cell? ⟨b,o+j,none⟩=some u)→C cs x→R b o x):Sl B v xs sz R:=by
 obtain⟨A,c,rfl,hl,hc,hr⟩:=h;refine⟨A,c,rfl,hl,hc,fun i x hx=>?_⟩;obtain⟨b,off,cs,ha,hb,hbl,hcs,hcells,hx⟩:=hr i x hx;exact⟨b,off,ha,hD b hbl hb,hR b _ cs x (hD b hbl hb) hcs hcells hx⟩
theorem DInts.rd{B:Nat}{xs:List Int}(h:DInts w D v xs)(hD:∀b,b<w.heap.size→D b→b<B):SInts w B v xs:=
 DRow.rd h hD fun b o cs x _ _ hc e=>by subst e;exact hc 0 _ rfl
theorem DVars.rd{B:Nat}{xs:List YaE}(h:DVars w D v xs)(hD:∀b,b<w.heap.size→D b→b<B):SVars w B v xs:=
 DRow.rd h hD fun b o cs x _ _ hc e=>by obtain⟨hn,rfl⟩:=e;exact⟨hn,hc 0 _ rfl,hc 1 _ rfl⟩
theorem DPhis.rd{B:Nat}{xs:List PPhi}(h:DPhis w D v xs)(hD:∀b,b<w.heap.size→D b→b<B):SPhis w B v xs:=
 DRow.rd h hD fun b o cs x _ _ hc e=>by
  obtain⟨v1,v2,rfl,h1,h2⟩:=e;exact⟨hc 0 _ rfl,⟨v1,hc 1 _ rfl,h1.rd hD⟩,v2,hc 2 _ rfl,h2.rd hD⟩
theorem DInsts.rd{B:Nat}{xs:List PInst}(h:DInsts w D v xs)(hD:∀b,b<w.heap.size→D b→b<B):SInsts w B v xs:=
 DRow.rd h hD fun b o cs x _ _ hc e=>by
  obtain⟨v1,rfl,h1⟩:=e;exact⟨hc 0 _ rfl,hc 1 _ rfl,⟨v1,hc 2 _ rfl,h1.rd hD⟩,hc 3 _ rfl⟩
theorem DBlks.rd{B:Nat}{xs:List PBlock}(h:DBlks w D v xs)(hD:∀b,b<w.heap.size→D b→b<B):SBlks w B v xs:=
 DRow.rd h hD fun b o cs x _ _ hc e=>by
  obtain⟨v1,v2,rfl,hn,h1,h2⟩:=e;exact⟨hn,hc 0 _ rfl,⟨v1,hc 1 _ rfl,h1.rd hD⟩,⟨v2,hc 2 _ rfl,h2.rd hD⟩,hc 3 _ rfl,hc 4 _ rfl,hc 5 _ rfl,hc 6 _ rfl⟩
theorem DInts.of_own{base e n:Nat}{xs:List Int}(h:w.ownsRow base e 1 v n (xs.map (Value.int .i64)))(hn:n≤1048576)(hD:∀b,base≤b→v.ownBlock=some b→D b):DInts w D v xs:=by
 obtain⟨A,c,rfl⟩:=Yp h;obtain⟨rfl,hc,hr⟩:=Rd.of_own h;refine⟨A,c,rfl,by unfold Len;omega,hc,fun i x hx=>?_⟩;obtain⟨b,off,rfl,hb,hx⟩:=hr i x hx;refine⟨b,off,[.int .i64 x],rfl,hD b (YG h rfl).1 rfl,hb,rfl,fun j u hu=>?_,rfl⟩;cases j with
 |zero=>cases hu;exact hx
 |succ j=>cases hu
end
def RRow{α:Type}(w:World)(base:Nat)(e:TypeId)(sz:Nat)(C:List Value→α→Prop)(v:Value)(xs:List α):Prop:=
 ∃ch:List (List Value),ch.length=xs.length∧(∀(i:Nat) cs x,ch[i]?=some cs→xs[i]?=some x→cs.length=sz∧C cs x)∧w.ownsRow base e sz v xs.length ch.flatten
theorem Yc7{sz:Nat}:∀{ch:List (List Value)} {i j:Nat} {cs:List Value},(∀c∈ch,c.length=sz)→ch[i]?=some cs→j<sz→ch.flatten[i*sz+j]?=cs[j]?
 |[],i,j,cs,_,h,_=>by simp at h
 |c::ch,0,j,cs,hs,h,hj=>by
  simp at h;subst h;have:=hs c ZS;rw[List.flatten_cons,List.getElem?_append_left ZO];congr 1;omega
 |c::ch,i+1,j,cs,hs,h,hj=>by
  have hc:=hs c ZS;rw[List.flatten_cons,List.getElem?_append_right (by rw[hc,Nat.add_mul];omega),hc,show(i+1)*sz+j-sz=i*sz+j by rw[Nat.add_mul];omega];exact Yc7 (fun c h=>hs c (by simp[h])) (by simpa using h) hj
section
variable {α:Type} {w w':World} {base sz:Nat} {e:TypeId} {C C':List Value→α→Prop} {v:Value} {xs:List α}
theorem RRow.nil:RRow w base e sz C (.slice none 0 0) ([]:List α):=⟨[],rfl,fun i cs x h=>by simp at h,World.ownsRow_nil _ _ _ _⟩
theorem RRow.own(h:RRow w base e sz C v xs):∃cells,w.ownsRow base e sz v xs.length cells:=by
 obtain⟨ch,-,-,h⟩:=h;exact⟨_,h⟩
theorem RRow.form(h:RRow w base e sz C v xs):∃A c,v=.slice A xs.length c:=by
 obtain⟨ch,-,-,h⟩:=h;exact Yp h
theorem RRow.lt(h:RRow w base e sz C v xs){k:Nat}(hk:v.ownBlock=some k):base≤k∧k<w.heap.size:=by
 obtain⟨ch,-,-,h⟩:=h;exact YG h hk
theorem RRow.turn(h:RRow w base e sz C v xs)(hk:∀k,v.ownBlock=some k→w'.heap[k]?=w.heap[k]?)(hC:∀cs x,C cs x→C' cs x):RRow w' base e sz C' v xs:=by
 obtain⟨ch,hl,hc,hr⟩:=h;refine⟨ch,hl,fun i cs x h1 h2=>⟨(hc i cs x h1 h2).1,hC _ _ (hc i cs x h1 h2).2⟩,hr.1,?_⟩;rcases hr.2 with h|⟨g,cap,cur,hv,hb,hh,r⟩
 · exact .inl h
 · exact .inr ⟨g,cap,cur,hv,hb,by rw[hk g (by rw[hv];rfl)];exact hh,r⟩
theorem RRow.rebase{B:Nat}(h:RRow w base e sz C v xs)(hB:B≤base):RRow w B e sz C v xs:=by
 obtain⟨ch,hl,hc,hr⟩:=h;refine⟨ch,hl,hc,hr.1,?_⟩;rcases hr.2 with h|⟨g,cap,cur,hv,hb,r⟩
 · exact .inl h
 · exact .inr ⟨g,cap,cur,hv,Nat.le_trans hB hb,r⟩
theorem RRow.move(h:RRow w base e sz C v xs)(hb:Below w.heap.size w w')(hC:∀cs x,C cs x→C' cs x):RRow w' base e sz C' v xs:=
 h.turn (fun k hk=>hb.block k (h.lt hk).2) hC
theorem RRow.snoc{v':Value}{cells cs:List Value}{x:α}(h:RRow w base e sz C v xs)(hcells:w.ownsRow base e sz v xs.length cells)(hg:w'.ownsRow base e sz v' (xs.length+1) (cells++cs))(hs:cs.length=sz)
 (hC:∀cs x,C cs x→C' cs x) (hx:C' cs x):RRow w' base e sz C' v' (xs++[x]):=by
 obtain⟨ch,hl,hc,hr⟩:=h;have he:ch.flatten=cells:=by
  rcases hr.2 with⟨h1,h0⟩|⟨g,cap,cur,hv,-,hh,-,-,-,ht⟩
  · have a:=hr.1
    have b:=hcells.1;rw[h0,Nat.zero_mul]at a b;rw[List.eq_nil_of_length_eq_zero a,List.eq_nil_of_length_eq_zero b]
  · rcases hcells.2 with⟨h1,h0⟩|⟨g',cap',cur',hv',-,hh',-,-,-,ht'⟩
    · rw[hv]at h1
      cases h1
    · rw[hv]at hv'
      cases hv';rw[hh]at hh';cases hh';rw[← ht,← ht']
 subst he;refine⟨ch++[cs],by simp[hl],fun i c y h1 h2=>?_,by simpa using hg⟩
 by_cases hi:i<ch.length
 · rw[List.getElem?_append_left hi]at h1
   rw[List.getElem?_append_left ZO]at h2;exact⟨(hc i c y h1 h2).1,hC _ _ (hc i c y h1 h2).2⟩
 · rw[List.getElem?_append_right ZO]at h1 h2
   have hi0:i=ch.length:=by
    have:=(List.getElem?_eq_some_iff.1 h1).1;simp at this;omega
   subst hi0;rw[hl]at h2;simp at h1 h2;subst h1 h2;exact⟨hs,hx⟩
theorem RRow.done{D:Nat→Prop}(h:RRow w base e sz C v xs)(hn:xs.length≤1048576)(hD:∀k,base≤k→v.ownBlock=some k→D k):DRow w D sz C v xs:=by
 obtain⟨ch,hl,hc,hr⟩:=h;obtain⟨A,c,rfl⟩:=Yp hr;have hcs:∀c∈ch,c.length=sz:=fun cs hm=>by
  obtain⟨i,hi,rfl⟩:=List.getElem_of_mem hm;exact(hc i _ (xs[i]'(ZO)) (by simp[hi]) ZS).1
 rcases hr.2 with⟨hv,h0⟩|⟨g,cap,cur,hv,hb,hh,hnc,hcm,hsz,ht⟩
 · simp only[Value.slice.injEq]at hv
   obtain⟨rfl,-,rfl⟩:=hv;refine⟨_,_,rfl,by unfold Len;omega,ZO,fun i x hx=>?_⟩;have:=(List.getElem?_eq_some_iff.1 hx).1;omega
 · simp only[Value.slice.injEq]at hv
   obtain⟨rfl,-,rfl⟩:=hv;refine⟨_,_,rfl,by unfold Len;omega,hnc,fun i x hx=>?_⟩;have hi:=(List.getElem?_eq_some_iff.1 hx).1;have hch:ch[i]?=some (ch[i]'(ZO)):=by simp[hl,hi]
   have hcx:=hc i _ x hch hx;refine⟨g,0,_,rfl,hD g hb rfl,(Array.getElem?_eq_some_iff.1 hh).1,hcx.1,fun j u hu=>?_,hcx.2⟩;have hj:j<sz:=by rw[← hcx.1];exact(List.getElem?_eq_some_iff.1 hu).1
   rw[cell_of_row w g _ cur e (0,0) hh,Nat.zero_add];have hf:=Yc7 hcs hch hj;rw[hu,← ht,List.getElem?_take]at hf;split at hf
   · simpa using hf
   · cases hf
end
section
variable {P:Program}
theorem YcA(w:World){ops:Array Oper}{rest:List Oper}{o:Oper}{a:Act}{Q:Exit→Act→World→Prop}(hgd:o.guard=none)(s x:Operand)(t:TypeId)
 (ho:o.op=.call { callee:=.builtin .append,args:=#[s,x],argTypes:=#[t,t] })
 (base:Nat) (e:TypeId) (sz bytes:Nat) (ht:P.underlying t=some (.slice e)) {z:Value} (hinf:(P.info? e).map (fun i=>(i.zero,i.size,i.bytes))=some (some z,sz,bytes)) (hz1:z.cells.size=sz) (hsz:0<sz)
 (v:Value) (n:Nat) (xs:List Value) (hs:a.eval s=v) (hown:w.ownsRow base e sz v n xs)
 (N:Nat) (hN:w.heap.size=N) (us:Array Value) (hx:a.eval x=.slice (some ⟨N,0,none⟩) 1 1) (hul:us.size=sz) (h1:∀u∈us,u.oneCell'=true)
 (h63:n<1048576) (hby:bytes≤128) (hbase:base≤w.heap.size)
 (h:∀v' w',w'.ownsRow base e sz v' (n+1) (xs++us.toList)→(w.alloc (.cells us e)).grownBy w' v.ownBlock→(∀k,v'.ownBlock=some k→v.ownBlock=some k∨w.heap.size<k)→wpList P ops Q rest (a.put o.dst v') w') :
 wpList P ops Q (o::rest) a (w.alloc (.cells us e)):=by
 subst hN;obtain⟨i,hi,hz,hisz,hb⟩:=info_parts hinf;have hown':=hown.alloc (.cells us e);have hnews:∀j u,us.toList[j]?=some u→(w.alloc (.cells us e)).cell? ((⟨w.heap.size,0,none⟩:Addr).add j)=some u:=fun j u hu=>by
  have:=(BoxAt.new w us e).cell j;rw[show((⟨w.heap.size,0,none⟩:Addr).add j)=⟨w.heap.size,j,none⟩ by simp[Addr.add];omega,this];simpa using hu
 have h1':∀u∈us.toList,u.oneCell'=true:=fun u hu=>h1 u (by simpa using hu)
 have hl1:us.toList.length=1*sz:=by simp[hul]
 have hbytes:(n+1)*bytes≤140737488355328:=by
  calc(n+1)*bytes≤1048576*128:=Nat.mul_le_mul ZO hby
   _≤140737488355328:=by decide
 obtain⟨v',w',hr,h2,h3,-⟩:=run_append_own (P:=P) (w.alloc (.cells us e)) base t o.type e i z sz bytes ht hi hz hisz hb hz1 hsz v n xs hown' ⟨w.heap.size,0,none⟩ 1 1 us.toList hl1 hnews h1' (by unfold maxLen;omega) hbytes ZX;have h4:∀k,v'.ownBlock=some k→v.ownBlock=some k∨w.heap.size<k:=by
  rcases hown'.2 with⟨rfl,rfl⟩|⟨g,cap,cur,rfl,hbg,hg,hnc,hcm,hcs,htake⟩
  · have hr2:=run_append_nil (P:=P) (w.alloc (.cells us e)) t o.type e i z ht hi hz ⟨w.heap.size,0,none⟩ 1 1 us.toList (by rw[hisz];exact hl1) hnews ZD ZD (by rw[hb];omega)
    rw[hr2]at hr;injection hr with e1 e2
    intro k hk;rw[← e1]at hk;simp only[Value.ownBlock,Option.some.injEq]at hk;right;rw[← hk];simp
  · by_cases hroom:n+1≤cap
    · obtain⟨w2,hr2,-,-⟩:=run_append_fits (P:=P) (w.alloc (.cells us e)) base t o.type e i sz ht hi hisz g n cap xs hown' ⟨w.heap.size,0,none⟩ 1 1 us.toList hl1 hnews h1' hroom
      rw[hr2]at hr;injection hr with e1 e2
      intro k hk;rw[← e1]at hk;exact .inl hk
    · have holds:∀j u',xs[j]?=some u'→(w.alloc (.cells us e)).cell? ((⟨g,0,none⟩:Addr).add j)=some u':=hown'.cells (g:=g) rfl
      have hr2:=run_append_grow (P:=P) (w.alloc (.cells us e)) t o.type e i z ht hi hz ⟨g,0,none⟩ n cap xs (by rw[hisz];exact hown'.1) holds ⟨w.heap.size,0,none⟩ 1 1 us.toList (by rw[hisz];exact hl1) hnews ZO ZO (growslice_fits ZO (by rw[hb];exact hbytes));rw[hr2]at hr;injection hr with e1 e2
      intro k hk;rw[← e1]at hk;simp only[Value.ownBlock,Option.some.injEq]at hk;right;rw[← hk];simp
 refine wpList_plain hgd fun _ hK=>?_
 unfold Oper.wp execOp;simp only[ho,resolve,invoke,builtin,Sem.run_bind,Sem.run_pure,Result.andThen_ok,List.map_toArray,List.map_cons,List.map_nil,hs,hx,hr];exact hK _ _ (h v' w' h2 (by simpa using h3) h4)
end
theorem YlM{W w:World}{A:Option Addr}{xss:List (List Int)}(h:Rd W.heap.size A xss 1 (RowC W W.heap.size))(hw:Below W.heap.size W w){i:Nat}(hi:i<xss.length) :
 ∃b off A1 c1,A=some ⟨b,off,none⟩∧b<w.heap.size∧w.cell? ⟨b,off+i,none⟩=some (.slice A1 (xss.getD i []).length c1)∧Len (xss.getD i []).length∧(xss.getD i []).length≤c1∧Rd W.heap.size A1 (xss.getD i []) 1 (Yk W):=by
 obtain⟨b,off,ha,hb,v,hv,A1,c1,rfl,l1,k1,r1⟩:=h i (xss.getD i []) (by simp[List.getD,hi]);rw[Nat.mul_one]at hv;exact⟨b,off,A1,c1,ha,by have:=hw.size;omega,(hw.cell (p:=⟨b,off+i,none⟩) hb).trans hv,l1,k1,r1⟩
theorem Rd.move{W w:World}{A:Option Addr}{xs:List Int}(h:Rd W.heap.size A xs 1 (Yk W))(hw:Below W.heap.size W w):Rd w.heap.size A xs 1 (Yk w):=by
 intro i x hx;obtain⟨b,off,ha,hb,hr⟩:=h i x hx;refine⟨b,off,ha,Nt hb hw.size,?_⟩;unfold Yk at *;rw[hw.cell (p:=⟨b,off+i*1,none⟩) hb];exact hr
theorem Yck{w:World}{base e sz n g:Nat}{t:TypeId}{cs:Array Value}{v:Value}{xs:List Value}(h:w.ownsRow base e sz v n xs)(hb:BoxAt w g cs t)(hne:e≠t):v.ownBlock≠some g:=by
 rcases h.2 with⟨rfl,_⟩|⟨g',cap,cur,rfl,_,hh,_⟩
 · simp[Value.ownBlock]
 · intro e1
   simp only[Value.ownBlock,Option.some.injEq]at e1;subst e1;unfold BoxAt at hb;rw[hb]at hh;simp only[Option.some.injEq,Obj.cells.injEq]at hh;exact hne hh.2.1.symm
end Go.Proofs.YtjlclkcmfokobaaGreatDoor
