/- A region that draws its order, walked in an order of our own, each operation marked: as a look, or as a step that is forced where it stands. -/
import Derived.Test.YtjlclkcmfokobaaGreatDoorZedZ
namespace Go.Proofs.YtjlclkcmfokobaaGreatDoor
open Go
section
variable {P:Program} {ops:Array Oper} {Q:Exit→Act→World→Prop} {S:World→Prop}
def Yac(P:Program)(ops:Array Oper)(Q:Exit→Act→World→Prop)(S:World→Prop):List (Oper×Bool)→Act→World→Prop
 |[],a,w=>Q .normal a w
 |(o,fl)::l,a,w=>
  if Region.wanted o (yielded ops a.tmps)=true then
   (if fl=true then o.wp P a w (fun a' w'=>S w'∧Yac P ops Q S l a' w') Q else o.quiet P a (fun w'=>∃x:WS S,w'=x.w) (fun a'=>Yac P ops Q S l a' w))
  else Yac P ops Q S l (a.put o.dst undef) w
def Ydv(md:Region.Mode)(ops:Array Oper):List (Nat×Bool)→Array Bool→Bool
 |[],listed=>(Region.ready md ops listed).isEmpty
 |(i,fl)::l,listed=>(match ops[i]? with
  |none=>false
  |some o=>if fl then Region.ready md ops listed==[i] else !Ybk o&&Region.free md ops listed i&&(Region.ready md ops listed).contains i)&&Ydv md ops l (listed.setIfInBounds i true)
theorem Ydw{md:Region.Mode}(hs:Region.noSelect ops=true)(hQ:∀c a (d:Tmp) v w,Q (.panic c) (Act.put a (some d) v) w→Q (.panic c) a w) :
 ∀(l:List (Nat×Bool)) (L:List (Oper×Bool)) (listed:Array Bool) (a:Act) (w:World),l.map (fun i=>(ops[i.1]?,i.2))=L.map (fun o=>(some o.1,o.2))→Ydv md ops l listed=true→S w→Yac P ops Q S L a w→wpAnyH P md ops Q S l.length listed a w
 |[],L,listed,a,w,hL,hB,hS,h=>by
  cases L with
  |cons o L=>simp at hL
  |nil=>exact⟨by simpa[Ydv]using hB,h⟩
 |(i,fl)::l,L,listed,a,w,hL,hB,hS,h=>by
  cases L with
  |nil=>simp at hL
  |cons o L=>
   obtain⟨o,fo⟩:=o;simp only[List.map_cons,List.cons.injEq,Prod.mk.injEq]at hL;obtain⟨⟨hi,rfl⟩,hL⟩:=hL;simp only[Ydv,hi,Bool.and_eq_true]at hB;obtain⟨hB0,hB1⟩:=hB;unfold Yac at h;cases fl with
   |false=>
    simp only[Bool.false_eq_true,if_false,Bool.and_eq_true,Bool.not_eq_true']at h hB0
    by_cases hw:Region.wanted o (yielded ops a.tmps)=true
    · rw[if_pos hw]at h
      obtain⟨v,hy,hK⟩:=Ydl hB0.1.1 hw h;exact wpAnyH_take hi hs hB0.1.2 hB0.2 (YbX hQ) hy hS (Ydw hs hQ l L _ _ _ hL hB1 hS hK)
    · rw[if_neg hw]at h
      exact wpAnyH_take hi hs hB0.1.2 hB0.2 (YbX hQ) (.inr ⟨by simpa using hw,rfl⟩) hS (Ydw hs hQ l L _ _ _ hL hB1 hS h)
   |true=>
    simp only[if_true,beq_iff_eq]at h hB0;refine wpAnyH_all hB0 ZS (fun j hj=>?_);obtain rfl:j=i:=by simpa using hj
    unfold wpOp;simp only[hi]
    by_cases hw:Region.wanted o (yielded ops a.tmps)=true
    · rw[if_pos hw]at h
      rw[if_pos hw];exact .inl (Oper.wp_mono (fun a' w' h'=>⟨h'.1,Ydw hs hQ l L _ _ _ hL hB1 h'.1 h'.2⟩) h)
    · rw[if_neg hw]at h
      rw[if_neg hw];exact⟨hS,Ydw hs hQ l L _ _ _ hL hB1 hS h⟩
theorem Yg8{id:Nat}{a:Act}{w:World}{l:List Oper}(sch:List (Nat×Bool))(hm:P.follows .mixedOrders=true)
 (hB:(Region.noSelect l.toArray&&Ydv .any l.toArray sch (Array.replicate l.length false)&&(sch.length==l.length)&&sch.all (fun i=>decide (i.1<l.length)))=true)
 (hQ:∀c a (d:Tmp) v w,Q (.panic c) (Act.put a (some d) v) w→Q (.panic c) a w)
 (hS:S w.drew) (h:S w.drew→Yac P l.toArray Q S (sch.map fun i=>(l.getD i.1 default,i.2)) a w.drew):(Code.region id l.toArray true).wp P Q a w:=by
 simp only[Bool.and_eq_true,beq_iff_eq]at hB;obtain⟨⟨⟨h1,h2⟩,h3⟩,h4⟩:=hB;have hL:sch.map (fun i=>(l.toArray[i.1]?,i.2))=(sch.map fun i=>(l.getD i.1 default,i.2)).map (fun o=>(some o.1,o.2)):=by
  rw[List.map_map];refine List.map_congr_left fun i hi=>?_
  have:i.1<l.length:=by simpa using List.all_eq_true.1 h4 i hi
  simp[this]
 refine wp_region_held (S:=S) hm ?_;have:=Ydw (md:=.any) h1 hQ sch _ _ a w.drew hL h2 hS (h hS);rw[h3]at this;simpa using this
theorem Yk6{a:Act}{w:World}{L1 L2:List (Oper×Bool)}:∀(_:L1.all (fun o=>!o.2)=true) (_:wpQuiet P ops (fun w'=>∃x:WS S,w'=x.w) (fun a'=>Yac P ops Q S L2 a' w) (L1.map (·.1)) a),Yac P ops Q S (L1++L2) a w:=by
 induction L1 generalizing a with
 |nil=>intro _ h;exact h
 |cons o l ih=>
  obtain⟨o,fl⟩:=o;intro he h;simp only[List.all_cons,Bool.and_eq_true,Bool.not_eq_true']at he;show Yac P ops Q S ((o,fl)::(l++L2)) a w;unfold Yac;simp only[List.map_cons]at h;unfold wpQuiet at h;rw[he.1]
  by_cases hw:Region.wanted o (yielded ops a.tmps)=true
  · rw[if_pos hw]at h
    rw[if_pos hw,if_neg ZD];exact Oper.quiet_mono (fun a' h'=>ih (by simpa using he.2) h') h
  · rw[if_neg hw]at h
    rw[if_neg hw];exact ih (by simpa using he.2) h
theorem Yk7{a:Act}{w:World}{o:Oper}{L:List (Oper×Bool)}(hw:Region.wanted o (yielded ops a.tmps)=true)
 (h:∀K:Act→World→Prop,Shut (∀a w,S w→(S w→Yac P ops Q S L a w)→K a w)→o.wp P a w K Q):Yac P ops Q S ((o,true)::L) a w:=by
 unfold Yac;rw[if_pos hw,if_pos rfl];exact h _ (fun a w h1 h2=>⟨h1,h2 h1⟩)
theorem Yg9{a:Act}{w:World}{x:Oper×Bool}{L:List (Oper×Bool)}(hx:x.2=false)(h:wpQuiet P ops (fun w'=>∃x:WS S,w'=x.w) (fun a'=>Yac P ops Q S L a' w) [x.1] a):Yac P ops Q S (x::L) a w:=by
 obtain⟨o,fl⟩:=x;obtain rfl:fl=false:=hx;exact Yk6 (L1:=[(o,false)]) (L2:=L) rfl h
theorem Yha{a:Act}{w:World}{x:Oper×Bool}{L:List (Oper×Bool)}(hx:x.2=true)(hw:Region.wanted x.1 (yielded ops a.tmps)=true)
 (h:∀K:Act→World→Prop,Shut (∀a w,S w→(S w→Yac P ops Q S L a w)→K a w)→x.1.wp P a w K Q):Yac P ops Q S (x::L) a w:=by
 obtain⟨o,fl⟩:=x;obtain rfl:fl=true:=hx;exact Yk7 hw h
theorem YpZ{a:Act}{w:World}{o:Oper}{fl:Bool}{L:List (Oper×Bool)}(hw:Region.wanted o (yielded ops a.tmps)=false)(h:Yac P ops Q S L (a.put o.dst undef) w):Yac P ops Q S ((o,fl)::L) a w:=by
 unfold Yac;rw[if_neg (by rw[hw];decide)];exact h
theorem Yhb{a:Act}{w:World}(h:Q .normal a w):Yac P ops Q S [] a w:=h
end
end Go.Proofs.YtjlclkcmfokobaaGreatDoor
namespace Go.Proofs.YtjlclkcmfokobaaGreatDoor
open Go
section
variable {P:Program} {ops:Array Oper} {Q:Exit→Act→World→Prop} {S:World→Prop}
def YS(P:Program)(ops:Array Oper)(Q:Exit→Act→World→Prop)(S:World→Prop)(R:Act→World→Prop):List (Oper×Bool)→Act→World→Prop
 |[],a,w=>R a w
 |(o,fl)::l,a,w=>
  if Region.wanted o (yielded ops a.tmps)=true then
   (if fl=true then o.wp P a w (fun a' w'=>S w'∧YS P ops Q S R l a' w') Q else o.quiet P a (fun w'=>∃x:WS S,w'=x.w) (fun a'=>YS P ops Q S R l a' w))
  else YS P ops Q S R l (a.put o.dst undef) w
def Yed(md:Region.Mode)(ops:Array Oper):List (Nat×Bool)→Array Bool→Bool
 |[],_=>true
 |(i,fl)::l,listed=>(match ops[i]? with
  |none=>false
  |some o=>if fl then Region.ready md ops listed==[i] else !Ybk o&&Region.free md ops listed i&&(Region.ready md ops listed).contains i)&&Yed md ops l (listed.setIfInBounds i true)
def Yft:List (Nat×Bool)→Array Bool→Array Bool
 |[],listed=>listed
 |i::l,listed=>Yft l (listed.setIfInBounds i.1 true)
theorem Ydx{md:Region.Mode}{fuel:Nat}(hs:Region.noSelect ops=true)(hQ:∀c a (d:Tmp) v w,Q (.panic c) (Act.put a (some d) v) w→Q (.panic c) a w) :
 ∀(l:List (Nat×Bool)) (L:List (Oper×Bool)) (listed:Array Bool) (a:Act) (w:World),l.map (fun i=>(ops[i.1]?,i.2))=L.map (fun o=>(some o.1,o.2))→Yed md ops l listed=true→S w→
  YS P ops Q S (fun a w=>S w→wpAnyH P md ops Q S fuel (Yft l listed) a w) L a w→wpAnyH P md ops Q S (l.length+fuel) listed a w
 |[],L,listed,a,w,hL,hB,hS,h=>by
  cases L with
  |cons o L=>simp at hL
  |nil=>
   rw[show([]:List (Nat×Bool)).length+fuel=fuel from ZS];exact h hS
 |(i,fl)::l,L,listed,a,w,hL,hB,hS,h=>by
  cases L with
  |nil=>simp at hL
  |cons o L=>
   obtain⟨o,fo⟩:=o;simp only[List.map_cons,List.cons.injEq,Prod.mk.injEq]at hL;obtain⟨⟨hi,rfl⟩,hL⟩:=hL;simp only[Yed,hi,Bool.and_eq_true]at hB;obtain⟨hB0,hB1⟩:=hB;unfold YS at h;rw[show((i,fl)::l).length+fuel=(l.length+fuel)+1 from ZX];cases fl with
   |false=>
    simp only[Bool.false_eq_true,if_false,Bool.and_eq_true,Bool.not_eq_true']at h hB0
    by_cases hw:Region.wanted o (yielded ops a.tmps)=true
    · rw[if_pos hw]at h
      obtain⟨v,hy,hK⟩:=Ydl hB0.1.1 hw h;exact wpAnyH_take hi hs hB0.1.2 hB0.2 (YbX hQ) hy hS (Ydx hs hQ l L _ _ _ hL hB1 hS hK)
    · rw[if_neg hw]at h
      exact wpAnyH_take hi hs hB0.1.2 hB0.2 (YbX hQ) (.inr ⟨by simpa using hw,rfl⟩) hS (Ydx hs hQ l L _ _ _ hL hB1 hS h)
   |true=>
    simp only[if_true,beq_iff_eq]at h hB0;refine wpAnyH_all hB0 ZS (fun j hj=>?_);obtain rfl:j=i:=by simpa using hj
    unfold wpOp;simp only[hi]
    by_cases hw:Region.wanted o (yielded ops a.tmps)=true
    · rw[if_pos hw]at h
      rw[if_pos hw];exact .inl (Oper.wp_mono (fun a' w' h'=>⟨h'.1,Ydx hs hQ l L _ _ _ hL hB1 h'.1 h'.2⟩) h)
    · rw[if_neg hw]at h
      rw[if_neg hw];exact⟨hS,Ydx hs hQ l L _ _ _ hL hB1 hS h⟩
theorem Yhc{id:Nat}{a:Act}{w:World}{l:List Oper}(hm:P.follows .mixedOrders=true)(hS:S w.drew)
 (h:S w.drew→wpAnyH P .any l.toArray Q S l.length (Array.replicate l.length false) a w.drew):(Code.region id l.toArray true).wp P Q a w:=by
 refine wp_region_held (S:=S) hm ?_;have:=h hS;simpa using this
theorem YbO{md:Region.Mode}{a:Act}{w:World}{l:List Oper}{n:Nat}{listed:Array Bool}(sch:List (Nat×Bool))(fuel:Nat)(hn:sch.length+fuel=n)
 (hB:(Region.noSelect l.toArray&&Yed md l.toArray sch listed&&sch.all (fun i=>decide (i.1<l.length)))=true)
 (hQ:∀c a (d:Tmp) v w,Q (.panic c) (Act.put a (some d) v) w→Q (.panic c) a w) (hS:S w)
 (h:YS P l.toArray Q S (fun a w=>S w→wpAnyH P md l.toArray Q S fuel (Yft sch listed) a w) (sch.map fun i=>(l.getD i.1 default,i.2)) a w):wpAnyH P md l.toArray Q S n listed a w:=by
 simp only[Bool.and_eq_true]at hB;obtain⟨⟨h1,h2⟩,h4⟩:=hB;have hL:sch.map (fun i=>(l.toArray[i.1]?,i.2))=(sch.map fun i=>(l.getD i.1 default,i.2)).map (fun o=>(some o.1,o.2)):=by
  rw[List.map_map];refine List.map_congr_left fun i hi=>?_
  have:i.1<l.length:=by simpa using List.all_eq_true.1 h4 i hi
  simp[this]
 subst hn;exact Ydx h1 hQ sch _ _ _ _ hL h2 hS h
theorem Yee{md:Region.Mode}{a:Act}{w:World}{l:List Oper}{n:Nat}{listed:Array Bool}(i j fuel:Nat)(hn:fuel+1=n)
 (hB:(Region.ready md l.toArray listed==[i,j]&&decide (i<l.length)&&decide (j<l.length))=true) (hS:S w)
 (h1:YS P l.toArray Q S (fun a w=>S w→wpAnyH P md l.toArray Q S fuel (listed.setIfInBounds i true) a w) [(l.getD i default,true)] a w)
 (h2:YS P l.toArray Q S (fun a w=>S w→wpAnyH P md l.toArray Q S fuel (listed.setIfInBounds j true) a w) [(l.getD j default,true)] a w):wpAnyH P md l.toArray Q S n listed a w:=by
 simp only[Bool.and_eq_true,beq_iff_eq,decide_eq_true_eq]at hB;obtain⟨⟨hr,hi⟩,hj⟩:=hB;subst hn;have key:∀k,k<l.length→YS P l.toArray Q S (fun a w=>S w→wpAnyH P md l.toArray Q S fuel (listed.setIfInBounds k true) a w) [(l.getD k default,true)] a w→
  wpOp P l.toArray Q k (fun a' w'=>S w'∧wpAnyH P md l.toArray Q S fuel (listed.setIfInBounds k true) a' w') a w:=by
  intro k hk h;unfold wpOp;have hg:l.toArray[k]?=some (l.getD k default):=by simp[hk]
  simp only[hg];unfold YS at h
  by_cases hw:Region.wanted (l.getD k default) (yielded l.toArray a.tmps)=true
  · rw[if_pos hw,if_pos rfl]at h
    rw[if_pos hw];refine .inl (Oper.wp_mono (fun a' w' h'=>?_) h);obtain⟨h3,h4⟩:=h';unfold YS at h4;exact⟨h3,h4 h3⟩
  · rw[if_neg hw]at h
    rw[if_neg hw];unfold YS at h;exact⟨hS,h hS⟩
 refine wpAnyH_all hr ZS (fun k hk=>?_);simp only[List.mem_cons,List.mem_nil_iff,or_false]at hk;rcases hk with rfl|rfl
 · exact key _ hi h1
 · exact key _ hj h2
theorem Yhd{md:Region.Mode}{a:Act}{w:World}{listed:Array Bool}(hB:(Region.ready md ops listed).isEmpty=true)(h:Q .normal a w):wpAnyH P md ops Q S 0 listed a w:=⟨by simpa using hB,h⟩
theorem Yk8{R:Act→World→Prop}{a:Act}{w:World}{L1 L2:List (Oper×Bool)}:∀(_:L1.all (fun o=>!o.2)=true) (_:wpQuiet P ops (fun w'=>∃x:WS S,w'=x.w) (fun a'=>YS P ops Q S R L2 a' w) (L1.map (·.1)) a),YS P ops Q S R (L1++L2) a w:=by
 induction L1 generalizing a with
 |nil=>intro _ h;exact h
 |cons o l ih=>
  obtain⟨o,fl⟩:=o;intro he h;simp only[List.all_cons,Bool.and_eq_true,Bool.not_eq_true']at he;show YS P ops Q S R ((o,fl)::(l++L2)) a w;unfold YS;simp only[List.map_cons]at h;unfold wpQuiet at h;rw[he.1]
  by_cases hw:Region.wanted o (yielded ops a.tmps)=true
  · rw[if_pos hw]at h
    rw[if_pos hw,if_neg ZD];exact Oper.quiet_mono (fun a' h'=>ih (by simpa using he.2) h') h
  · rw[if_neg hw]at h
    rw[if_neg hw];exact ih (by simpa using he.2) h
theorem Yk9{R:Act→World→Prop}{a:Act}{w:World}{o:Oper}{L:List (Oper×Bool)}(hw:Region.wanted o (yielded ops a.tmps)=true)
 (h:∀K:Act→World→Prop,Shut (∀a w,S w→(S w→YS P ops Q S R L a w)→K a w)→o.wp P a w K Q):YS P ops Q S R ((o,true)::L) a w:=by
 unfold YS;rw[if_pos hw,if_pos rfl];exact h _ (fun a w h1 h2=>⟨h1,h2 h1⟩)
theorem YbP{R:Act→World→Prop}{a:Act}{w:World}{x:Oper×Bool}{L:List (Oper×Bool)}(hx:x.2=false)(h:wpQuiet P ops (fun w'=>∃x:WS S,w'=x.w) (fun a'=>YS P ops Q S R L a' w) [x.1] a):YS P ops Q S R (x::L) a w:=by
 obtain⟨o,fl⟩:=x;obtain rfl:fl=false:=hx;exact Yk8 (L1:=[(o,false)]) (L2:=L) rfl h
theorem YbQ{R:Act→World→Prop}{a:Act}{w:World}{x:Oper×Bool}{L:List (Oper×Bool)}(hx:x.2=true)(hw:Region.wanted x.1 (yielded ops a.tmps)=true)
 (h:∀K:Act→World→Prop,Shut (∀a w,S w→(S w→YS P ops Q S R L a w)→K a w)→x.1.wp P a w K Q):YS P ops Q S R (x::L) a w:=by
 obtain⟨o,fl⟩:=x;obtain rfl:fl=true:=hx;exact Yk9 hw h
theorem Yp0{R:Act→World→Prop}{a:Act}{w:World}{o:Oper}{fl:Bool}{L:List (Oper×Bool)}(hw:Region.wanted o (yielded ops a.tmps)=false)(h:YS P ops Q S R L (a.put o.dst undef) w):YS P ops Q S R ((o,fl)::L) a w:=by
 unfold YS;rw[if_neg (by rw[hw];decide)];exact h
theorem YbR{R:Act→World→Prop}{a:Act}{w:World}(h:R a w):YS P ops Q S R [] a w:=h
end
end Go.Proofs.YtjlclkcmfokobaaGreatDoor
namespace Go.Proofs.YtjlclkcmfokobaaGreatDoor
open Go
section
variable {P:Program} {ops:Array Oper} {Q:Exit→Act→World→Prop} {S:World→Prop}
def YaM(P:Program)(md:Region.Mode)(ops:Array Oper)(Q:Exit→Act→World→Prop)(S:World→Prop)(tl:List Nat):Nat→Array Bool→Act→World→Prop
 |0,listed,a,w=>Region.ready md ops listed=[]∧Q .normal a w
 |n+1,listed,a,w=>(Region.ready md ops listed=[]→Q .normal a w)∧
  ∀i∈Region.ready md ops listed,wpOp P ops Q i (fun a' w'=>(i∉tl→S w→S w')∧YaM P md ops Q S tl n (listed.setIfInBounds i true) a' w') a w
theorem Yhe{md:Region.Mode}{tl:List Nat}:∀(n:Nat) (listed:Array Bool) (a:Act) (w:World),YaM P md ops Q S tl n listed a w→wpAny P md ops Q n listed a w
 |0,_,_,_,h=>h
 |n+1,_,_,_,h=>⟨h.1,fun i hi=>wpOp_mono (fun a' w' h'=>Yhe n _ a' w' h'.2) (h.2 i hi)⟩
def ClosedL(md:Region.Mode)(ops:Array Oper)(listed:Array Bool):Prop:=∀j o,ops[j]?=some o→listed.getD j false=true→∀e∈o.after,Region.binds md e=true→listed.getD e.on false=true
theorem ClosedL.set{md:Region.Mode}{listed:Array Bool}{i:Nat}(h:ClosedL md ops listed)(hi:i∈Region.ready md ops listed):ClosedL md ops (listed.setIfInBounds i true):=by
 intro j o ho hj e he hb;refine getD_set_true ?_
 by_cases hji:j=i
 · subst hji
   obtain⟨-,o',ho',hall⟩:=mem_ready.1 hi;obtain rfl:o'=o:=Option.some.inj (ho'.symm.trans ho);exact hall e he hb
 · refine h j o ho ?_ e he hb
   rwa [getD_set_ne false (fun e=>hji e.symm)]at hj
theorem ClosedL.start{md:Region.Mode}{n:Nat}:ClosedL md ops (Array.replicate n false):=by
 intro j o _ hj
 by_cases hl:j<n
 · simp[Array.getD,hl]at hj
 · simp[Array.getD,hl]at hj
def Ycw(md:Region.Mode)(ops:Array Oper)(i:Nat):Nat→Nat→Bool
 |0,_=>false
 |n+1,j=>match ops[j]? with
  |none=>false
  |some o=>o.after.any fun e=>Region.binds md e&&(e.on==i||Ycw md ops i n e.on)
theorem Yhf{md:Region.Mode}{i:Nat}{listed:Array Bool}(hc:ClosedL md ops listed):∀(n j:Nat) (o:Oper),ops[j]?=some o→(∀e∈o.after,Region.binds md e=true→listed.getD e.on false=true)→Ycw md ops i n j=true→listed.getD i false=true
 |0,_,_,_,_,h=>by simp[Ycw]at h
 |n+1,j,o,ho,hall,h=>by
  simp only[Ycw,ho]at h;rw[Array.any_eq_true']at h;obtain⟨e,he,hb⟩:=h;rw[Bool.and_eq_true,Bool.or_eq_true,beq_iff_eq]at hb;have h1:=hall e he hb.1;rcases hb.2 with h2|h2
  · rw[← h2];exact h1
  · cases n with
    |zero=>simp[Ycw]at h2
    |succ n=>
     have h3:=h2;simp only[Ycw]at h3;split at h3
     · cases h3
     · rename_i o2 ho2
       exact Yhf hc (n+1) e.on o2 ho2 (hc e.on o2 ho2 h1) h2
def Yfu(md:Region.Mode)(ops:Array Oper)(tl:List Nat)(i:Nat):Bool:=tl.all fun j=>Ycw md ops i ops.size j
theorem Yla{md:Region.Mode}{tl:List Nat}{i j:Nat}{listed:Array Bool}(hc:ClosedL md ops listed)(h:Yfu md ops tl i=true)(hi:i∈Region.ready md ops listed)(hj:j∈Region.ready md ops listed):j∉tl:=by
 intro hjt;have h1:=List.all_eq_true.1 h j hjt;obtain⟨-,o,ho,hall⟩:=mem_ready.1 hj;have h2:=Yhf hc _ j o ho hall h1;have h0:=(mem_ready.1 hi).1
 by_cases hl:i<listed.size
 · simp[Array.getD,hl]at h0 h2
   rw[h0]at h2;cases h2
 · simp[Array.getD,hl]at h2
theorem Yfv{md:Region.Mode}{tl:List Nat}{i:Nat}{oi:Oper}{v:Value}{S':World→Prop}(hi:ops[i]?=some oi)(hs:Region.noSelect ops=true)
 (hS':∀listed,ClosedL md ops listed→i∈Region.ready md ops listed→∀j∈Region.ready md ops listed,∀w w',S' w→(j∉tl→S w→S w')→S' w')
 (hQ:∀c a w,Q (.panic c) (a.put oi.dst v) w→Q (.panic c) a w):∀(n:Nat) (listed:Array Bool) (a:Act) (w:World),ClosedL md ops listed→Region.free md ops listed i=true→i∈Region.ready md ops listed→
  YieldsIf P ops S' oi v a→S' w→YaM P md ops Q S tl n (listed.setIfInBounds i true) (a.put oi.dst v) w→YaM P md ops Q S tl (n+1) listed a w:=by
 have hsel:=Region.noSelect_spec hs;have hap:∀{listed:Array Bool} {j:Nat} {oj:Oper},Region.free md ops listed i=true→i∈Region.ready md ops listed→j∈Region.ready md ops listed→ops[j]?=some oj→j≠i→oi.apart ops oj=true:=by
  intro listed j oj hf hr hj hoj hji;obtain⟨hju,o',ho',hall⟩:=mem_ready.1 hj;obtain rfl:o'=oj:=Option.some.inj (ho'.symm.trans hoj);refine Region.free_spec hi hf j _ hoj hji hju fun e he hb heq=>?_
  have h1:=hall e he hb;have h0:=(mem_ready.1 hr).1;rw[heq]at h1
  by_cases hl:i<listed.size
  · simp[Array.getD,hl]at h0 h1
    rw[h0]at h1;cases h1
  · simp[Array.getD,hl]at h1
 intro n
 induction n with
 |zero=>
  intro listed a w hc hf hr hy hS h;refine⟨fun e=>by rw[e]at hr;(cases hr),fun j hj=>?_⟩
  by_cases e:j=i
  · subst e
    exact hy.wpOp hi hS ⟨fun _ h=>h,h⟩
  · have h3:=ready_mono hj e
    rw[h.1]at h3;cases h3
 |succ n ih=>
  intro listed a w hc hf hr hy hS h;refine⟨fun e=>by rw[e]at hr;(cases hr),fun j hj=>?_⟩
  by_cases e:j=i
  · subst e
    exact hy.wpOp hi hS ⟨fun _ h=>h,h⟩
  · obtain⟨hju,oj,hoj,-⟩:=mem_ready.1 hj
    have h2:=wpOp_putIf hoj (hap hf hr hj hoj e) (fun cs b=>hsel i oi cs b hi) (fun cs b=>hsel j oj cs b hoj) hQ hy (h.2 j (ready_mono hj e));refine wpOp_mono (fun a' w' h3=>⟨h3.2.1,ih _ a' w' (hc.set hj) ?_ (ready_mono hr (fun e'=>e e'.symm)) h3.1 (hS' listed hc hr j hj w w' hS h3.2.1) ?_⟩) h2
    · unfold Region.free at hf⊢
      rw[hi]at hf ⊢;rw[List.all_eq_true]at hf ⊢;intro k hk;have:=hf k hk;rw[Bool.or_eq_true,Bool.or_eq_true]at this ⊢;rcases this with(h4|h4)|h4
      · exact .inl (.inl h4)
      · refine .inl (.inr ?_)
        by_cases hjk:j=k
        · subst hjk
          rw[hju]at h4;cases h4
        · rw[getD_set_ne true hjk]
          exact h4
      · exact .inr h4
    · rw[Array.setIfInBounds_comm _ _ e]
      exact h3.2.2
def Ydy(md:Region.Mode)(ops:Array Oper)(tl:List Nat):List Nat→Array Bool→Bool
 |[],listed=>(Region.ready md ops listed).isEmpty
 |i::l,listed=>tl.contains i&&Region.ready md ops listed==[i]&&Ydy md ops tl l (listed.setIfInBounds i true)
theorem Yfw{md:Region.Mode}{tl:List Nat}:∀(l:List Nat) (L:List Oper) (listed:Array Bool) (a:Act) (w:World),l.map (fun i=>ops[i]?)=L.map some→Ydy md ops tl l listed=true→
 wpList P ops Q L a w→YaM P md ops Q S tl l.length listed a w
 |[],L,listed,a,w,hL,hB,h=>by
  cases L with
  |cons o L=>simp at hL
  |nil=>exact⟨by simpa[Ydy]using hB,h⟩
 |i::l,L,listed,a,w,hL,hB,h=>by
  cases L with
  |nil=>simp at hL
  |cons o L=>
   simp only[List.map_cons,List.cons.injEq]at hL;obtain⟨hi,hL⟩:=hL;simp only[Ydy,Bool.and_eq_true,beq_iff_eq]at hB;obtain⟨⟨h0,h1⟩,h2⟩:=hB;have hit:i∈tl:=by simpa using h0
   refine⟨fun e=>by rw[e]at h1;(cases h1),fun j hj=>?_⟩;rw[h1]at hj;obtain rfl:j=i:=by simpa using hj
   unfold wpList at h;unfold wpOp;simp only[hi]
   by_cases hw:Region.wanted o (yielded ops a.tmps)=true
   · rw[if_pos hw]at h
     rw[if_pos hw];refine h.imp (Oper.wp_mono fun a' w' h'=>⟨fun hn=>absurd hit hn,Yfw l L _ _ _ hL h2 h'⟩) id
   · rw[if_neg hw]at h
     rw[if_neg hw];exact⟨fun hn=>absurd hit hn,Yfw l L _ _ _ hL h2 h⟩
def YD(P:Program)(ops:Array Oper)(Q:Exit→Act→World→Prop)(S:World→Prop)(R:Act→World→Prop):List (Oper×Nat)→Act→World→Prop
 |[],a,w=>R a w
 |(o,k)::l,a,w=>
  if Region.wanted o (yielded ops a.tmps)=true then
   (match k with
   |0=>o.quiet P a (fun w'=>∃x:WS S,w'=x.w) (fun a'=>YD P ops Q S R l a' w)
   |1=>o.wp P a w (fun a' w'=>S w'∧YD P ops Q S R l a' w') Q
   |_=>o.quiet P a (fun w'=>∃x:WS (fun _=>True),w'=x.w) (fun a'=>YD P ops Q S R l a' w))
  else YD P ops Q S R l (a.put o.dst undef) w
def Ydz:List (Nat×Nat)→Array Bool→Array Bool
 |[],listed=>listed
 |i::l,listed=>Ydz l (listed.setIfInBounds i.1 true)
def Yef(md:Region.Mode)(ops:Array Oper)(tl:List Nat):List (Nat×Nat)→Array Bool→Bool
 |[],_=>true
 |(i,k)::l,listed=>(match ops[i]? with
  |none=>false
  |some o=>if k=1 then Region.ready md ops listed==[i] else !Ybk o&&Region.free md ops listed i&&(Region.ready md ops listed).contains i&&(k !=0||Yfu md ops tl i))&&Yef md ops tl l (listed.setIfInBounds i true)
theorem YcZ{md:Region.Mode}{tl:List Nat}{fuel:Nat}(hs:Region.noSelect ops=true)(hQ:∀c a (d:Tmp) v w,Q (.panic c) (Act.put a (some d) v) w→Q (.panic c) a w) :
 ∀(l:List (Nat×Nat)) (L:List (Oper×Nat)) (listed:Array Bool) (a:Act) (w:World),ClosedL md ops listed→l.map (fun i=>(ops[i.1]?,i.2))=L.map (fun o=>(some o.1,o.2))→Yef md ops tl l listed=true→S w→
  YD P ops Q S (fun a w=>S w→ClosedL md ops (Ydz l listed)→YaM P md ops Q S tl fuel (Ydz l listed) a w) L a w→YaM P md ops Q S tl (l.length+fuel) listed a w
 |[],L,listed,a,w,hc,hL,hB,hS,h=>by
  cases L with
  |cons o L=>simp at hL
  |nil=>
   rw[show([]:List (Nat×Nat)).length+fuel=fuel from ZS];exact h hS hc
 |(i,k)::l,L,listed,a,w,hc,hL,hB,hS,h=>by
  cases L with
  |nil=>simp at hL
  |cons o L=>
   obtain⟨o,ko⟩:=o;simp only[List.map_cons,List.cons.injEq,Prod.mk.injEq]at hL;obtain⟨⟨hi,rfl⟩,hL⟩:=hL;simp only[Yef,hi,Bool.and_eq_true]at hB;obtain⟨hB0,hB1⟩:=hB;unfold YD at h;rw[show((i,k)::l).length+fuel=(l.length+fuel)+1 from ZX]
   by_cases hk:k=1
   · subst hk
     simp only[if_true,beq_iff_eq]at h hB0;have hir:i∈Region.ready md ops listed:=by rw[hB0];simp
     refine⟨fun e=>by rw[e]at hB0;(cases hB0),fun j hj=>?_⟩;rw[hB0]at hj;obtain rfl:j=i:=by simpa using hj
     unfold wpOp;simp only[hi]
     by_cases hw:Region.wanted o (yielded ops a.tmps)=true
     · rw[if_pos hw]at h
       rw[if_pos hw];exact .inl (Oper.wp_mono (fun a' w' h'=>⟨fun _ _=>h'.1,YcZ hs hQ l L _ _ _ (hc.set hir) hL hB1 h'.1 h'.2⟩) h)
     · rw[if_neg hw]at h
       rw[if_neg hw];exact⟨fun _ _=>hS,YcZ hs hQ l L _ _ _ (hc.set hir) hL hB1 hS h⟩
   · rw[if_neg hk]at hB0
     simp only[Bool.and_eq_true,Bool.or_eq_true,Bool.not_eq_true']at hB0;obtain⟨⟨⟨he,hf⟩,hr⟩,hwt⟩:=hB0;have hir:i∈Region.ready md ops listed:=by simpa using hr
     by_cases hw:Region.wanted o (yielded ops a.tmps)=true
     · rw[if_pos hw]at h
       match k,hk,hwt,h with
       |0,_,hwt,h=>
        have hwt':Yfu md ops tl i=true:=by simpa using hwt
        obtain⟨v,hy,hK⟩:=Ydl he hw h;exact Yfv hi hs (fun listed hc hr j hj w w' h1 h2=>h2 (Yla hc hwt' hr hj) h1) (YbX hQ) _ _ _ _ hc hf hir hy hS (YcZ hs hQ l L _ _ _ (hc.set hir) hL hB1 hS hK)
       |k+2,_,_,h=>
        obtain⟨v,hy,hK⟩:=Ydl (S:=fun _=>True) he hw h;exact Yfv hi hs (fun _ _ _ _ _ _ _ _ _=>trivial) (YbX hQ) _ _ _ _ hc hf hir hy trivial (YcZ hs hQ l L _ _ _ (hc.set hir) hL hB1 hS hK)
     · rw[if_neg hw]at h
       exact Yfv (S':=fun _=>True) hi hs (fun _ _ _ _ _ _ _ _ _=>trivial) (YbX hQ) _ _ _ _ hc hf hir (.inr ⟨by simpa using hw,rfl⟩) trivial (YcZ hs hQ l L _ _ _ (hc.set hir) hL hB1 hS h)
theorem Yb0{id:Nat}{a:Act}{w:World}{l:List Oper}(tl:List Nat)(hm:P.follows .mixedOrders=true)(hS:S w.drew)
 (h:S w.drew→ClosedL .any l.toArray (Array.replicate l.length false)→YaM P .any l.toArray Q S tl l.length (Array.replicate l.length false) a w.drew):(Code.region id l.toArray true).wp P Q a w:=by
 refine wp_region_any hm (Yhe (S:=S) (tl:=tl) _ _ _ _ ?_);have:=h hS ClosedL.start;simpa using this
theorem Ya5{md:Region.Mode}{a:Act}{w:World}{l:List Oper}{tl:List Nat}{n:Nat}{listed:Array Bool}(sch:List (Nat×Nat))(fuel:Nat)(hn:sch.length+fuel=n)
 (hB:(Region.noSelect l.toArray&&Yef md l.toArray tl sch listed&&sch.all (fun i=>decide (i.1<l.length)))=true)
 (hQ:∀c a (d:Tmp) v w,Q (.panic c) (Act.put a (some d) v) w→Q (.panic c) a w) (hS:S w) (hc:ClosedL md l.toArray listed)
 (h:YD P l.toArray Q S (fun a w=>S w→ClosedL md l.toArray (Ydz sch listed)→YaM P md l.toArray Q S tl fuel (Ydz sch listed) a w) (sch.map fun i=>(l.getD i.1 default,i.2)) a w):YaM P md l.toArray Q S tl n listed a w:=by
 simp only[Bool.and_eq_true]at hB;obtain⟨⟨h1,h2⟩,h4⟩:=hB;have hL:sch.map (fun i=>(l.toArray[i.1]?,i.2))=(sch.map fun i=>(l.getD i.1 default,i.2)).map (fun o=>(some o.1,o.2)):=by
  rw[List.map_map];refine List.map_congr_left fun i hi=>?_
  have:i.1<l.length:=by simpa using List.all_eq_true.1 h4 i hi
  simp[this]
 subst hn;exact YcZ h1 hQ sch _ _ _ _ hc hL h2 hS h
theorem Yfx{md:Region.Mode}{a:Act}{w:World}{l:List Oper}{tl:List Nat}{n:Nat}{listed:Array Bool}(i j fuel:Nat)(hn:fuel+1=n)
 (hB:(Region.ready md l.toArray listed==[i,j]&&decide (i<l.length)&&decide (j<l.length))=true) (hS:S w) (hc:ClosedL md l.toArray listed)
 (h1:YD P l.toArray Q S (fun a w=>S w→ClosedL md l.toArray (listed.setIfInBounds i true)→YaM P md l.toArray Q S tl fuel (listed.setIfInBounds i true) a w) [(l.getD i default,1)] a w)
 (h2:YD P l.toArray Q S (fun a w=>S w→ClosedL md l.toArray (listed.setIfInBounds j true)→YaM P md l.toArray Q S tl fuel (listed.setIfInBounds j true) a w) [(l.getD j default,1)] a w):YaM P md l.toArray Q S tl n listed a w:=by
 simp only[Bool.and_eq_true,beq_iff_eq,decide_eq_true_eq]at hB;obtain⟨⟨hr,hi⟩,hj⟩:=hB;subst hn;have key:∀k,k∈Region.ready md l.toArray listed→k<l.length→YD P l.toArray Q S (fun a w=>S w→ClosedL md l.toArray (listed.setIfInBounds k true)→YaM P md l.toArray Q S tl fuel (listed.setIfInBounds k true) a w) [(l.getD k default,1)] a w→
  wpOp P l.toArray Q k (fun a' w'=>(k∉tl→S w→S w')∧YaM P md l.toArray Q S tl fuel (listed.setIfInBounds k true) a' w') a w:=by
  intro k hkr hk h;unfold wpOp;have hg:l.toArray[k]?=some (l.getD k default):=by simp[hk]
  simp only[hg];unfold YD at h
  by_cases hw:Region.wanted (l.getD k default) (yielded l.toArray a.tmps)=true
  · rw[if_pos hw]at h
    rw[if_pos hw];refine .inl (Oper.wp_mono (fun a' w' h'=>?_) h);obtain⟨h3,h4⟩:=h';unfold YD at h4;exact⟨fun _ _=>h3,h4 h3 (hc.set hkr)⟩
  · rw[if_neg hw]at h
    rw[if_neg hw];unfold YD at h;exact⟨fun _ _=>hS,h hS (hc.set hkr)⟩
 refine⟨fun e=>by rw[e]at hr;(cases hr),fun k hk=>?_⟩;have hk':=hk;rw[hr]at hk;simp only[List.mem_cons,List.mem_nil_iff,or_false]at hk;rcases hk with rfl|rfl
 · exact key _ hk' hi h1
 · exact key _ hk' hj h2
theorem Yb1{md:Region.Mode}{a:Act}{w:World}{l:List Oper}{tl:List Nat}(en:List Nat){n:Nat}{listed:Array Bool}(hn:en.length=n)
 (hB:(Ydy md l.toArray tl en listed&&en.all (fun i=>decide (i<l.length)))=true) (h:wpList P l.toArray Q (en.map fun i=>l.getD i default) a w):YaM P md l.toArray Q S tl n listed a w:=by
 simp only[Bool.and_eq_true]at hB;obtain⟨h1,h5⟩:=hB;have hT:en.map (fun i=>l.toArray[i]?)=(en.map fun i=>l.getD i default).map some:=by
  rw[List.map_map];refine List.map_congr_left fun i hi=>?_
  have:i<l.length:=by simpa using List.all_eq_true.1 h5 i hi
  simp[this]
 subst hn;exact Yfw en _ listed a w hT h1 h
theorem Ylb{R:Act→World→Prop}{a:Act}{w:World}{L1 L2:List (Oper×Nat)}:∀(_:L1.all (fun o=>o.2==0)=true) (_:wpQuiet P ops (fun w'=>∃x:WS S,w'=x.w) (fun a'=>YD P ops Q S R L2 a' w) (L1.map (·.1)) a),YD P ops Q S R (L1++L2) a w:=by
 induction L1 generalizing a with
 |nil=>intro _ h;exact h
 |cons o l ih=>
  obtain⟨o,k⟩:=o;intro he h;simp only[List.all_cons,Bool.and_eq_true,beq_iff_eq]at he;obtain⟨rfl,he⟩:=he;show YD P ops Q S R ((o,0)::(l++L2)) a w;unfold YD;simp only[List.map_cons]at h;unfold wpQuiet at h
  by_cases hw:Region.wanted o (yielded ops a.tmps)=true
  · rw[if_pos hw]at h
    rw[if_pos hw];exact Oper.quiet_mono (fun a' h'=>ih he h') h
  · rw[if_neg hw]at h
    rw[if_neg hw];exact ih he h
theorem Ylc{R:Act→World→Prop}{a:Act}{w:World}{o:Oper}{L:List (Oper×Nat)}(h:wpQuiet P ops (fun w'=>∃x:WS (fun _=>True),w'=x.w) (fun a'=>YD P ops Q S R L a' w) [o] a):YD P ops Q S R ((o,2)::L) a w:=by
 unfold YD;unfold wpQuiet at h
 by_cases hw:Region.wanted o (yielded ops a.tmps)=true
 · rw[if_pos hw]at h
   rw[if_pos hw];exact Oper.quiet_mono (fun a' h'=>h') h
 · rw[if_neg hw]at h
   rw[if_neg hw];exact h
theorem Yld{R:Act→World→Prop}{a:Act}{w:World}{o:Oper}{L:List (Oper×Nat)}(hw:Region.wanted o (yielded ops a.tmps)=true)
 (h:∀K:Act→World→Prop,Shut (∀a w,S w→(S w→YD P ops Q S R L a w)→K a w)→o.wp P a w K Q):YD P ops Q S R ((o,1)::L) a w:=by
 unfold YD;rw[if_pos hw];exact h _ (fun a w h1 h2=>⟨h1,h2 h1⟩)
theorem Ya6{R:Act→World→Prop}{a:Act}{w:World}{x:Oper×Nat}{L:List (Oper×Nat)}(hx:x.2=0)(h:wpQuiet P ops (fun w'=>∃x:WS S,w'=x.w) (fun a'=>YD P ops Q S R L a' w) [x.1] a):YD P ops Q S R (x::L) a w:=by
 obtain⟨o,fl⟩:=x;obtain rfl:fl=0:=hx;exact Ylb (L1:=[(o,0)]) (L2:=L) rfl h
theorem Ybe{R:Act→World→Prop}{a:Act}{w:World}{x:Oper×Nat}{L:List (Oper×Nat)}(hx:x.2=1)(hw:Region.wanted x.1 (yielded ops a.tmps)=true)
 (h:∀K:Act→World→Prop,Shut (∀a w,S w→(S w→YD P ops Q S R L a w)→K a w)→x.1.wp P a w K Q):YD P ops Q S R (x::L) a w:=by
 obtain⟨o,fl⟩:=x;obtain rfl:fl=1:=hx;exact Yld hw h
theorem Ya7{R:Act→World→Prop}{a:Act}{w:World}{x:Oper×Nat}{L:List (Oper×Nat)}(hx:x.2=2)(h:wpQuiet P ops (fun w'=>∃x:WS (fun _=>True),w'=x.w) (fun a'=>YD P ops Q S R L a' w) [x.1] a):YD P ops Q S R (x::L) a w:=by
 obtain⟨o,fl⟩:=x;obtain rfl:fl=2:=hx;exact Ylc h
theorem Yp1{R:Act→World→Prop}{a:Act}{w:World}{o:Oper}{k:Nat}{L:List (Oper×Nat)}(hw:Region.wanted o (yielded ops a.tmps)=false)(h:YD P ops Q S R L (a.put o.dst undef) w):YD P ops Q S R ((o,k)::L) a w:=by
 unfold YD;rw[if_neg (by rw[hw];decide)];exact h
theorem Ya8{R:Act→World→Prop}{a:Act}{w:World}(h:R a w):YD P ops Q S R [] a w:=h
end
end Go.Proofs.YtjlclkcmfokobaaGreatDoor
