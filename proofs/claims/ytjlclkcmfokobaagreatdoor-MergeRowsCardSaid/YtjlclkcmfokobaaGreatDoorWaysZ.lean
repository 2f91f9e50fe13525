/- The plain law of GraphRises: where each block stands in the order. -/
import Derived.Test.YtjlclkcmfokobaaGreatDoorPredsZ
import Derived.Test.YtjlclkcmfokobaaGreatDoorRefRZ
import Derived.Test.YtjlclkcmfokobaaGreatDoorAboveZ
namespace Go.Proofs.YtjlclkcmfokobaaGreatDoor
open Go.RowKit
set_option maxRecDepth 100000
theorem YhK{E:Nat→List Nat}:∀{out:List Nat},ParOk E [] out→∀i (hi:i<out.length),out[i]=0∨∃j,∃hj:j<out.length,i<j∧out[i]∈E out[j]
 |v::post,⟨h1,h2⟩,0,_=>by
  rcases h1 with h|⟨p,hp,h|h⟩
  · exact .inl h
  · cases h
  · obtain⟨k,hk,rfl⟩:=List.mem_iff_getElem.1 h
    exact .inr ⟨k+1,by simp;exact hk,ZO,by simpa using hp⟩
 |v::post,⟨h1,h2⟩,i+1,hi=>by
  rcases YhK h2 i (by simpa using hi)with h|⟨j,hj,h3,h4⟩
  · exact .inl (by simpa using h)
  · exact .inr ⟨j+1,by simp;exact hj,ZO,by simpa using h4⟩
section
variable {E:Nat→List Nat} {N:Nat} {out:List Nat}
theorem YfV(h:DfsFin E N out){b:Nat}:0<pl N out.reverse b↔b∈out:=by
 have hnd:out.reverse.Nodup:=Ye5 h.nod;constructor
 · intro hp
   by_cases hb:b∈out
   · exact hb
   · unfold pl at hp
     rw[Ye4 _ (Nr _) (by rw[List.take_length];simpa using hb)]at hp;exact absurd hp (Nat.lt_irrefl _)
 · intro hb
   obtain⟨i,hi,rfl⟩:=List.mem_iff_getElem.1 (List.mem_reverse.2 hb);unfold pl;rw[Yd8 hnd (fun x hx=>h.lt x (List.mem_reverse.1 hx)) _ (Nr _) i hi hi];omega
theorem YfW(h:DfsFin E N out){b:Nat}(hb:b∈out):b=0∨∃a,a∈out∧b∈E a∧pl N out.reverse a<pl N out.reverse b:=by
 have hnd:out.reverse.Nodup:=Ye5 h.nod;have hlt:∀x∈out.reverse,x<N:=fun x hx=>h.lt x (List.mem_reverse.1 hx)
 obtain⟨i,hi,rfl⟩:=List.mem_iff_getElem.1 hb;rcases YhK h.par i hi with h0|⟨j,hj,hij,he⟩
 · exact .inl h0
 · refine .inr ⟨out[j],List.getElem_mem hj,he,?_⟩
   have key:∀k (hk:k<out.length),pl N out.reverse out[k]=out.length-k:=by
    intro k hk;have h1:=Yd8 hnd hlt _ (Nr _) (out.length-1-k) ZX ZX;rw[List.getElem_reverse]at h1;have e:out.length-1-(out.length-1-k)=k:=by omega
    simp only[e]at h1;unfold pl;rw[h1];omega
   rw[key i hi,key j hj];omega
theorem Ymi(h:DfsFin E N out){b:Nat}:(b=0∨∃a,a∈out∧b∈E a)↔b∈out:=by
 constructor
 · rintro(rfl|⟨a,ha,hb⟩)
   · have:=h.last
     exact List.mem_of_getLast? this
   · exact h.clo a ha b hb
 · intro hb
   rcases YfW h hb with h0|⟨a,ha,he,_⟩
   · exact .inl h0
   · exact .inr ⟨a,ha,he⟩
end
theorem Ybg{F:PFunc}(h:Yd F=true){a b:Nat}(ha:a<F.blocks.length):b∈EN F a↔leads (F.blk a).term (b:Int)=true:=by
 rw[← YkY,Yfy h ha];unfold Yf;simp only[List.mem_map];constructor
 · intro hb;exact⟨b,hb,rfl⟩
 · rintro⟨c,hc,he⟩
   have:c=b:=by simp at he;omega
   rw[← this];exact hc
theorem Yp8{F:PFunc}{a:Nat}(ha:¬a<F.blocks.length):EN F a=[(0:Nat)]:=by
 unfold EN PFunc.blk;rw[List.getD_eq_getElem?_getD,List.getElem?_eq_none ZO];rfl
theorem Ycn{F:PFunc}(h:Yd F=true):DfsFin (EN F) F.blocks.length (postO F):=
 DfsFin.start (YdA F) (fun _ hv c hc=>Yc1 h hv c hc) (Y1 (Yx h)).1
def YdM(F:PFunc)(b a:Nat):Bool:=decide (b=0)||(List.range a).any fun x=>leads (F.blk x).term (b:Int)&&decide (0<pl F.blocks.length (postO F).reverse x)
def YdN(F:PFunc)(b a:Nat):Bool:=decide (b=0)||(List.range a).any fun x=>leads (F.blk x).term (b:Int)&&decide (0<pl F.blocks.length (postO F).reverse x)&&decide (pl F.blocks.length (postO F).reverse x<pl F.blocks.length (postO F).reverse b)
theorem Yp9{F:PFunc}{b a:Nat}:YdM F b (a+1)=(YdM F b a||(leads (F.blk a).term (b:Int)&&decide (0<pl F.blocks.length (postO F).reverse a))):=by
 unfold YdM;rw[List.range_succ,List.any_append,Bool.or_assoc];simp
theorem Yqa{F:PFunc}{b a:Nat}:YdN F b (a+1)=(YdN F b a||(leads (F.blk a).term (b:Int)&&decide (0<pl F.blocks.length (postO F).reverse a)&&decide (pl F.blocks.length (postO F).reverse a<pl F.blocks.length (postO F).reverse b))):=by
 unfold YdN;rw[List.range_succ,List.any_append,Bool.or_assoc];simp
theorem Yqb{F:PFunc}(h:Yd F=true){b:Nat}:YdM F b F.blocks.length=decide (0<pl F.blocks.length (postO F).reverse b):=by
 have fin:=Ycn h;rw[Bool.eq_iff_iff];unfold YdM;simp only[Bool.or_eq_true,decide_eq_true_eq,List.any_eq_true,List.mem_range,Bool.and_eq_true,YfV fin];rw[← Ymi fin];constructor
 · rintro(h0|⟨x,hx,h1,h2⟩)
   · exact .inl h0
   · exact .inr ⟨x,h2,(Ybg h hx).2 h1⟩
 · rintro(h0|⟨x,h2,h1⟩)
   · exact .inl h0
   · exact .inr ⟨x,fin.lt x h2,(Ybg h (fin.lt x h2)).1 h1,h2⟩
theorem Yqc{F:PFunc}(h:Yd F=true){b:Nat}(hb:0<pl F.blocks.length (postO F).reverse b):YdN F b F.blocks.length=true:=by
 have fin:=Ycn h;unfold YdN;simp only[Bool.or_eq_true,decide_eq_true_eq,List.any_eq_true,List.mem_range,Bool.and_eq_true];rcases YfW fin ((YfV fin).1 hb)with h0|⟨a,ha,he,hl⟩
 · exact .inl h0
 · exact .inr ⟨a,fin.lt a ha,⟨(Ybg h (fin.lt a ha)).1 he,(YfV fin).2 ha⟩,hl⟩
theorem Ymj{F:PFunc}(h:Yd F=true):∃r,(postO F).reverse=0::r:=by
 have:=(Ycn h).last;rw[List.getLast?_eq_head?_reverse]at this;cases hr:(postO F).reverse with
 |nil=>rw[hr]at this;simp at this
 |cons a r=>rw[hr]at this;simp at this;subst this;exact⟨r,rfl⟩
theorem Ymk(F:PFunc)(h:Yd F=true){b:Nat}(hb:b<F.blocks.length):(EN F b).Nodup:=by
 have he:=Yeh h hb;unfold EN;unfold endsOf at he ⊢;split
 · exact ZS
 · split
   · split
     · exact ZS
     · rename_i h0 h1 h2
       rw[if_neg h0,if_pos h1,if_neg h2]at he;have a0:=YQ (he (F.blk b).term.t0 ZS);have a1:=YQ (he (F.blk b).term.t1 ZS);simp;omega
   · exact ZS
theorem YhL{i b:Nat}:∀{l:List Nat} {xss:List (List Int)},l.Nodup→b<xss.length→(l.foldl (Y2 i) xss).getD b []=if b∈l then xss.getD b []++[(i:Int)] else xss.getD b []
 |[],xss,_,_=>by simp
 |c::l,xss,hn,hb=>by
  rw[List.nodup_cons]at hn;rw[List.foldl_cons,YhL hn.2 (by rw[YfE];exact hb)]
  by_cases hc:b=c
  · subst hc
    rw[if_neg hn.1,if_pos ZS];simp[Y2,List.getD,hb]
  · have e:(Y2 i xss c).getD b []=xss.getD b []:=by
     unfold Y2;rw[List.getD,List.getElem?_set_ne (fun e=>hc e.symm),List.getD]
    rw[e]
    by_cases hl:b∈l
    · rw[if_pos hl,if_pos (by simp[hl])]
    · rw[if_neg hl,if_neg (by simp[hl,hc])]
def Yq(F:PFunc)(b:Nat):Nat→List Nat
 |0=>[]
 |i+1=>if leads (F.blk i).term (b:Int)=true then Yq F b i++[i] else Yq F b i
theorem Yes{F:PFunc}(h:Yd F=true){b:Nat}(hb:b<F.blocks.length):∀i,i≤F.blocks.length→(Y6 F i).getD b []=Yf (Yq F b i)
 |0,_=>by simp[Y6,Yq,Yf,List.getD,hb]
 |i+1,hi=>by
  have ih:=Yes h hb i ZO;rw[Y6,YhL (Ymk F h ZO) (by rw[Yc3];exact hb),ih,Yq]
  by_cases hl:leads (F.blk i).term (b:Int)=true
  · rw[if_pos ((Ybg h ZO).2 hl),if_pos hl]
    simp[Yf]
  · rw[if_neg (fun e=>hl ((Ybg h ZO).1 e)),if_neg hl]
theorem YhM{F:PFunc}{b:Nat}:∀{i j:Nat},i≤j→∃r,Yq F b j=Yq F b i++r
 |i,0,h=>⟨[],by obtain rfl:=Nat.le_zero.1 h;simp⟩
 |i,j+1,h=>by
  by_cases e:i=j+1
  · subst e;exact⟨[],ZS⟩
  · obtain⟨r,hr⟩:=YhM (F:=F) (b:=b) (show i≤j from ZO)
    rw[Yq];split
    · exact⟨r++[j],by rw[hr,List.append_assoc]⟩
    · exact⟨r,hr⟩
theorem Yqd{F:PFunc}{b i N:Nat}(hi:i<N)(hl:leads (F.blk i).term (b:Int)=true):(Yq F b i).length<(Yq F b N).length∧ith (Yf (Yq F b N)) (Yq F b i).length=(i:Int):=by
 obtain⟨r,hr⟩:=YhM (F:=F) (b:=b) (show i+1≤N from ZO);rw[Yq,if_pos hl]at hr;rw[hr];constructor
 · exact ZS
 · simp[ith,Yf,List.getD]
theorem YfX{F:PFunc}{b:Nat}:∀i,(Yq F b i).length≤i
 |0=>by simp[Yq]
 |i+1=>by
  have:=YfX (F:=F) (b:=b) i;rw[Yq];split
  · exact ZX
  · exact ZO
end Go.Proofs.YtjlclkcmfokobaaGreatDoor
namespace Go.Proofs.YtjlclkcmfokobaaGreatDoor
open Go.RowKit
inductive YbF (R:Nat→Nat→Prop) (a:Nat):Nat→Prop
 |one {b:Nat}:R a b→YbF R a b
 |more {b c:Nat}:YbF R a b→R b c→YbF R a c
structure MarkInv (R:Nat→Nat→Prop) (n a:Nat) (t:List Bool):Prop where
 len:t.length=n
 way:∀x,t.getD x false=true→YbF R a x
def Closed(R:Nat→Nat→Prop)(a:Nat)(t:List Bool):Prop:=∀x y,(x=a∨t.getD x false=true)→R x y→t.getD y false=true
section
variable {R:Nat→Nat→Prop} {n a:Nat} {t:List Bool}
theorem MarkInv.start:MarkInv R n a (List.replicate n false):=⟨ZS,fun x h=>by
 simp only[List.getD,List.getElem?_replicate]at h
 split at h<;>simp at h⟩
theorem MarkInv.set(h:MarkInv R n a t){x y:Nat}(hx:x=a∨t.getD x false=true)(hr:R x y)(hy:y<n):MarkInv R n a (t.set y true):=by
 refine⟨by rw[List.length_set,h.len],fun z hz=>?_⟩;rw[getD_set_true (by rw[h.len];exact hy)]at hz;rcases hz with rfl|hz
 · rcases hx with rfl|hx
   · exact .one hr
   · exact .more (h.way _ hx) hr
 · exact h.way z hz
theorem Closed.plus(h:Closed R a t):∀{x:Nat},YbF R a x→t.getD x false=true:=by
 intro x hp
 induction hp with
 |one hr=>exact h _ _ (.inl rfl) hr
 |more _ hr ih=>exact h _ _ (.inr ih) hr
open Classical in
noncomputable def YaQ (R:Nat→Nat→Prop) (n a:Nat):List Bool:=(List.range n).map fun x=>decide (YbF R a x)
theorem Yet:(YaQ R n a).length=n:=by simp[YaQ]
theorem Yeu{x:Nat}(hx:x<n):(YaQ R n a).getD x false=true↔YbF R a x:=by
 simp[YaQ,List.getD,hx]
theorem YhN{s t:List Bool}(hl:s.length=t.length)(h:∀x,x<s.length→(s.getD x false=true↔t.getD x false=true)):s=t:=by
 refine List.ext_getElem hl fun i h1 h2=>?_
 have:=h i h1;simp only[List.getD,List.getElem?_eq_getElem h1,List.getElem?_eq_getElem h2,Option.getD_some]at this;exact Bool.eq_iff_iff.2 this
theorem MarkInv.fin(h:MarkInv R n a t)(hc:Closed R a t):t=YaQ R n a:=
 YhN (by rw[h.len,Yet]) fun x hx=>⟨fun e=>(Yeu (by rw[← h.len];exact hx)).2 (h.way x e),fun e=>hc.plus ((Yeu (by rw[← h.len];exact hx)).1 e)⟩
def left(t:List Bool):Nat:=t.count false
theorem Yml{y:Nat}:∀{t:List Bool},y<t.length→t.getD y false=false→left (t.set y true)+1=left t:=by
 unfold left
 induction y with
 |zero=>
  intro t h hs;cases t with
  |nil=>simp at h
  |cons b r=>simp at hs;subst hs;simp
 |succ y ih=>
  intro t h hs;cases t with
  |nil=>simp at h
  |cons b r=>
   have:=ih (t:=r) (by simpa using h) (by simpa using hs);simp only[Lc,List.count_cons]at this ⊢;omega
theorem Ymm:left t≤t.length:=List.count_le_length
end
theorem Yda{w:World}{B B' e sz n:Nat}{v:Value}{xs:List Value}(h:w.ownsRow B e sz v n xs)(hb:B'≤B):w.ownsRow B' e sz v n xs:=by
 obtain⟨h1,h2⟩:=h;refine⟨h1,?_⟩;rcases h2 with h2|⟨g,cap,cur,hv,hg,r⟩
 · exact .inl h2
 · exact .inr ⟨g,cap,cur,hv,Nat.le_trans hb hg,r⟩
theorem YaR{w:World}{B e g n cap:Nat}{t:List Bool}(h:w.ownsRow B e 1 (.slice (some ⟨g,0,none⟩) n cap) n (t.map Value.bool)){i:Nat}(hi:i<n):w.cell? ⟨g,i,none⟩=some (.bool (t.getD i false)):=by
 have hl:t.length=n:=by have:=h.1;simpa using this
 rw[h.cellAt i ZO];simp[List.getD,hl,hi]
theorem Yev{t:List Bool}{i:Nat}{b:Bool}:(t.map Value.bool).set i (.bool b)=(t.set i b).map Value.bool:=by rw[List.map_set]
end Go.Proofs.YtjlclkcmfokobaaGreatDoor
namespace Go.Proofs.YtjlclkcmfokobaaGreatDoor
open Go.RowKit
set_option maxRecDepth 100000
def RF(F:PFunc)(r:Int)(x y:Nat):Prop:=x<F.blocks.length∧y<F.blocks.length∧(x:Int)≠r∧(y:Int)≠r∧leads (F.blk x).term (y:Int)=true
def Mid(R:Nat→Nat→Prop)(a:Nat)(t:List Bool)(x:Nat)(t':List Bool)(m:Bool):Prop:=
 (m=false→t'=t∧∀x' y,x'<x→(x'=a∨t.getD x' false=true)→R x' y→t.getD y false=true)∧(m=true→left t'<left t)
def Inn(R:Nat→Nat→Prop)(a:Nat)(t:List Bool)(x y:Nat)(t':List Bool)(m:Bool):Prop:=
 (x=a∨t'.getD x false=true)∧(m=false→t'=t∧(∀x' y,x'<x→(x'=a∨t.getD x' false=true)→R x' y→t.getD y false=true)∧∀y',y'<y→R x y'→t.getD y' false=true)∧(m=true→left t'<left t)
section
variable {R:Nat→Nat→Prop} {n a x y:Nat} {t t':List Bool} {m:Bool}
theorem Mid.start:Mid R a t 0 t false:=⟨fun _=>⟨rfl,fun x' y h=>absurd h (Nat.not_lt_zero _)⟩,fun h=>by cases h⟩
theorem Mid.skip(h:Mid R a t x t' m)(hn:∀y,(x=a∨t'.getD x false=true)→R x y→False):Mid R a t (x+1) t' m:=by
 refine⟨fun hm=>?_,h.2⟩;obtain⟨rfl,h1⟩:=h.1 hm;refine⟨rfl,fun x' y hx hy hr=>?_⟩;rcases Nat.lt_succ_iff_lt_or_eq.1 hx with hx|rfl
 · exact h1 x' y hx hy hr
 · exact(hn y hy hr).elim
theorem Mid.inn(h:Mid R a t x t' m)(hx:x=a∨t'.getD x false=true):Inn R a t x 0 t' m:=
 ⟨hx,fun hm=>⟨(h.1 hm).1,(h.1 hm).2,fun _ h0=>absurd h0 (Nat.not_lt_zero _)⟩,h.2⟩
theorem Inn.skip(h:Inn R a t x y t' m)(hs:R x y→t'.getD y false=true):Inn R a t x (y+1) t' m:=by
 refine⟨h.1,fun hm=>?_,h.2.2⟩;obtain⟨rfl,h1,h2⟩:=h.2.1 hm;refine⟨rfl,h1,fun y' hy hr=>?_⟩;rcases Nat.lt_succ_iff_lt_or_eq.1 hy with hy|rfl
 · exact h2 y' hy hr
 · exact hs hr
theorem Inn.mark(h:Inn R a t x y t' m)(hy:y<t'.length)(hs:t'.getD y false=false):Inn R a t x (y+1) (t'.set y true) true:=by
 refine⟨?_,(fun hm=>by cases hm),fun _=>?_⟩
 · rcases h.1 with e|e
   · exact .inl e
   · exact .inr ((getD_set_true hy).2 (.inr e))
 · have:=Yml hy hs
   cases m with
   |false=>rw[(h.2.1 rfl).1]at this ⊢;omega
   |true=>have:=h.2.2 rfl;omega
theorem Inn.mid(h:Inn R a t x n t' m)(hR:∀x y,R x y→y<n):Mid R a t (x+1) t' m:=by
 refine⟨fun hm=>?_,h.2.2⟩;obtain⟨rfl,h1,h2⟩:=h.2.1 hm;refine⟨rfl,fun x' y hx hy hr=>?_⟩;rcases Nat.lt_succ_iff_lt_or_eq.1 hx with hx|rfl
 · exact h1 x' y hx hy hr
 · exact h2 y (hR _ _ hr) hr
theorem Mid.closed(h:Mid R a t n t' false)(hR:∀x y,R x y→x<n):Closed R a t':=by
 obtain⟨rfl,h1⟩:=h.1 rfl;exact fun x y hx hr=>h1 x y (hR x y hr) hx hr
end
set_option maxHeartbeats 4000000 in
theorem Ymn{W w:World}{fv:Value}{F:PFunc}(hF:FnV W W.heap.size fv F)(hW:Below W.heap.size W w)(n1:1≤F.blocks.length)(n2:F.blocks.length≤64)(a:Nat)(r:Int) :
 Calls Tryz.prog 101 #[fv,.int .i64 (a:Int),.int .i64 r] w fun e w'=>∃g,e=.returned (.slice (some ⟨g,0,none⟩) F.blocks.length F.blocks.length)∧
  w'.ownsRow w.heap.size 4 1 (.slice (some ⟨g,0,none⟩) F.blocks.length F.blocks.length) F.blocks.length ((YaQ (RF F r) F.blocks.length a).map Value.bool)∧Below w.heap.size w w':=by
 have hld:=Lh (fun(w':World) (h:Below W.heap.size W w') (x y:Nat) (hx:x<F.blocks.length)=>Ye2 hF h (x:Int) (y:Int) ZO ZO);obtain⟨A0,c0,A1,c1,A2,c2,rfl,l0,l1,l2,-⟩:=id hF.open_;have hRy:=Lh (fun x y (h:RF F r x y)=>h.2.1);have hRx:=Lh (fun x y (h:RF F r x y)=>h.1);unfold Len at *;have hWs:=hW.size;have hb0:=(Br w.heap.size w).alloc (Nr _) (.cells #[.slice A0 F.vars.length c0,.slice A1 F.params.length c1,.slice A2 F.blocks.length c2] 26);obtain⟨ib,hib,hz0,hz1,hz2⟩:=info_parts Tryz.info4;go_enter Tryz.func101,Tryz.ntmps101
 go_wp2_with(
  at_make;refine wpList_make_full _ rfl _ _ 62 rfl (w.heap.size+1) 4 ib _ 1 Tryz.underlying62 hib hz0 hz1 _ _ _ _ _ rfl rfl rfl rfl (by rw[hz2];omega) (by unfold maxLen;omega) ZS ?_;intro w1 hs1 hg1
  have hs2:w1.ownsRow (w.heap.size+1) 4 1 (.slice (some ⟨w.heap.size+1,0,none⟩) F.blocks.length F.blocks.length) F.blocks.length ((List.replicate F.blocks.length false).map Value.bool):=by simpa[Value.cells,toList_madeCells_one]using hs1
  have hg2:(w.alloc (.cells #[.slice A0 F.vars.length c0,.slice A1 F.params.length c1,.slice A2 F.blocks.length c2] 26)).grownBy w1 none:=hg1
  clear hs1 hg1)
 have hbx:Below (w.heap.size+1) (w.alloc (.cells #[.slice A0 F.vars.length c0,.slice A1 F.params.length c1,.slice A2 F.blocks.length c2] 26)) w1:=(Br _ _).grown hg2 ZS (fun k hk=>by cases hk);clear hg2
 go_loopg[9] (2*F.blocks.length+1) (fun gk v9 wr=>∃t m,v9=.bool m∧Hid (MarkInv (RF F r) F.blocks.length a t∧(m=false→Closed (RF F r) a t)∧2*left t+(if m=true then 1 else 0)≤gk)∧
  wr.ownsRow (w.heap.size+1) 4 1 (.slice (some ⟨w.heap.size+1,0,none⟩) F.blocks.length F.blocks.length) F.blocks.length (t.map Value.bool)∧Below (w.heap.size+1) (w.alloc (.cells #[.slice A0 F.vars.length c0,.slice A1 F.params.length c1,.slice A2 F.blocks.length c2] 26)) wr)
 case atStart=>exact⟨_,true,rfl,⟨MarkInv.start,(fun h=>by cases h),by have:=Ymm (t:=List.replicate F.blocks.length false);simp at this ⊢;omega⟩,hs2,hbx⟩
 case round=>as_aux_lemma=>
  obtain⟨t,m,rfl,HD,ho,hb⟩:=hrel;cases m
  · have hfin:=HD.out.1.fin (HD.out.2.1 rfl)
    go_wp2;go_ret;exact⟨_,rfl,by rw[← hfin];exact Yda ho (Nat.le_succ _),hb0.trans (hb.mono (Nat.le_succ _))⟩
  clear hs2 hbx;go_wp2;obtain⟨wv,rfl⟩:∃wv:World,wv=wr:=⟨_,rfl⟩
  go_loopw[9,19] (fun s9 i wr=>∃(x:Nat) (t':List Bool) (m':Bool),i=.int .i64 x∧s9=.bool m'∧x≤F.blocks.length∧Hid (MarkInv (RF F r) F.blocks.length a t'∧Mid (RF F r) a t x t' m')∧
   wr.ownsRow (w.heap.size+1) 4 1 (.slice (some ⟨w.heap.size+1,0,none⟩) F.blocks.length F.blocks.length) F.blocks.length (t'.map Value.bool)∧Below (w.heap.size+1) (w.alloc (.cells #[.slice A0 F.vars.length c0,.slice A1 F.params.length c1,.slice A2 F.blocks.length c2] 26)) wr) (fun _ i _=>F.blocks.length-(intOf i).toNat)
  case atStart=>exact⟨0,t,false,rfl,rfl,Nz _,⟨HD.out.1,Mid.start⟩,ho,hb⟩
  case round=>as_aux_lemma=>
   clear ho hb;obtain⟨x,t',m',rfl,rfl,hx,HM,ho,hb⟩:=hrel
   by_cases hxl:x<F.blocks.length
   · have hcx:=YaR ho hxl
     have hgl:=(ho.lt _ rfl).2
     by_cases hxr:(x:Int)=r
     · have e0:((x:Int)==r)=true:=by simp[hxr]
       have HX:=Lh hxr;clear hxr;go_wp2;go_roundw
       case rel=>exact⟨x+1,t',m',ZN,rfl,ZO,⟨HM.out.1,HM.out.2.skip fun y _ h=>h.2.2.1 HX.out⟩,ho,hb⟩
       case measure=>simp[intOf];omega
     have ex:=beq_eq_false_iff_ne.2 hxr
     by_cases hen:x=a∨t'.getD x false=true
     · have hin:((x:Int) !=(a:Int))=false∨((x:Int) !=(a:Int))=true∧t'.getD x false=true:=by
        by_cases e:x=a
        · exact .inl (by simp[e])
        · exact .inr ⟨by rw[bne_iff_ne];omega,hen.resolve_left e⟩
       have HEN:=Lh hen;have HXR:=Lh hxr;clear hen hxr;rcases hin with ea|⟨ea,et⟩
       all_goals
        first|rw[et]at hcx|skip
        go_wp2;obtain⟨wu,rfl⟩:∃wu:World,wu=wr:=⟨_,rfl⟩
        go_loopw[9,38] (fun s9 i wr=>∃(y:Nat) (t2:List Bool) (m2:Bool),i=.int .i64 y∧s9=.bool m2∧y≤F.blocks.length∧Hid (MarkInv (RF F r) F.blocks.length a t2∧Inn (RF F r) a t x y t2 m2)∧
         wr.ownsRow (w.heap.size+1) 4 1 (.slice (some ⟨w.heap.size+1,0,none⟩) F.blocks.length F.blocks.length) F.blocks.length (t2.map Value.bool)∧Below (w.heap.size+1) (w.alloc (.cells #[.slice A0 F.vars.length c0,.slice A1 F.params.length c1,.slice A2 F.blocks.length c2] 26)) wr) (fun _ i _=>F.blocks.length-(intOf i).toNat)
        case atStart=>exact⟨0,t',m',rfl,rfl,Nz _,⟨HM.out.1,HM.out.2.inn HEN.out⟩,ho,hb⟩
        case round=>as_aux_lemma=>
         clear ho hb hcx hgl;obtain⟨y,t2,m2,rfl,rfl,hy,HI,ho,hb⟩:=hrel
         by_cases hyl:y<F.blocks.length
         · have hcy:=YaR ho hyl
           have hgl:=(ho.lt _ rfl).2
           by_cases hyr:(y:Int)=r
           · have e0:((y:Int) !=r)=false:=by simp[hyr]
             have HY:=Lh hyr;clear hyr;go_wp2;go_roundw
             case rel=>exact⟨y+1,t2,m2,ZN,rfl,ZO,⟨HI.out.1,HI.out.2.skip fun h=>absurd HY.out h.2.2.2.1⟩,ho,hb⟩
             case measure=>simp[intOf];omega
           have e0:((y:Int) !=r)=true:=by rw[bne_iff_ne];exact hyr
           have HYR:=Lh hyr;clear hyr;cases hty:t2.getD y false
           · rw[hty]at hcy
             have HTY:=Lh hty;clear hty;obtain⟨hq,hq0,hq1,hq2⟩:=Yn hb;have hB:=hb0.trans (hb.mono (Nat.le_succ _));have hl:=hld.out wr (hW.trans (hB.mono hWs)) x y hxl;rw[Int.toNat_natCast]at hl;have hfz:=ho.frozenAt y;cases hle:leads (F.blk x).term (y:Int)
             · rw[hle]at hl
               have HL:=Lh hle;clear hle;go_wp2_with fail;refine hl.mono ?_;rintro e w8 ⟨rfl,hb8⟩;go_wp2;go_roundw
               case rel=>exact⟨y+1,t2,m2,ZN,rfl,ZO,⟨HI.out.1,HI.out.2.skip fun h=>by have:=h.2.2.2.2;rw[HL.out]at this;cases this⟩,Yu ho hb8,hb.trans (hb8.mono ZO)⟩
               case measure=>simp[intOf];omega
             · rw[hle]at hl
               have HL:=Lh hle;clear hle;go_wp2_with fail;refine hl.mono ?_;rintro e w8 ⟨rfl,hb8⟩;have ho8:=Yu ho hb8;have hgl8:=(ho8.lt _ rfl).2;have hfz8:=ho8.frozenAt y;have hcy8:=YaR ho8 hyl;go_wp2;go_roundw
               case rel=>exact⟨y+1,t2.set y true,true,ZN,rfl,ZO,⟨HI.out.1.set HI.out.2.1 ⟨hxl,hyl,HXR.out,HYR.out,HL.out⟩ hyl,HI.out.2.mark (by rw[HI.out.1.len];exact hyl) HTY.out⟩,by rw[← Yev];exact(ho8.stored y (.bool true)).1,(hb.trans (hb8.mono ZO)).setCell (Nr _) _⟩
               case measure=>simp[intOf];omega
           · rw[hty]at hcy
             have HTY:=Lh hty;clear hty;go_wp2;go_roundw
             case rel=>exact⟨y+1,t2,m2,ZN,rfl,ZO,⟨HI.out.1,HI.out.2.skip fun _=>HTY.out⟩,ho,hb⟩
             case measure=>simp[intOf];omega
         · obtain rfl:y=F.blocks.length:=by omega
           go_wp2;go_roundw
           case rel=>exact⟨x+1,t2,m2,ZN,rfl,ZO,⟨HI.out.1,HI.out.2.mid hRy.out⟩,ho,hb⟩
           case measure=>simp[intOf];omega
     · have ea:((x:Int) !=(a:Int))=true:=by rw[bne_iff_ne];omega
       have et:t'.getD x false=false:=by
        cases h:t'.getD x false
        · rfl
        · exact absurd (.inr h) hen
       have HEN:=Lh hen;rw[et]at hcx;clear hen hxr et;go_wp2;go_roundw
       case rel=>exact⟨x+1,t',m',ZN,rfl,ZO,⟨HM.out.1,HM.out.2.skip fun y h _=>HEN.out h⟩,ho,hb⟩
       case measure=>simp[intOf];omega
   · obtain rfl:x=F.blocks.length:=by omega
     have hk:=HD.out.2.2;simp only[if_true]at hk;obtain⟨gk',rfl⟩:∃f,gk=f+1:=⟨gk-1,ZO⟩;go_wp2
     go_roundg gk'
     case measure=>omega
     case rel=>
      refine⟨t',m',rfl,⟨HM.out.1,fun hm=>?_,?_⟩,ho,hb⟩
      · subst hm;exact HM.out.2.closed hRx.out
      · cases m' with
        |false=>rw[(HM.out.2.1 rfl).1];simp;omega
        |true=>have:=HM.out.2.2 rfl;simp;omega
theorem YfY{W w:World}{fv:Value}{F:PFunc}(hF:FnV W W.heap.size fv F)(hW:Below W.heap.size W w)(n1:1≤F.blocks.length)(n2:F.blocks.length≤64)(r:Int) :
 Calls Tryz.prog 99 #[fv,.int .i64 r] w fun e w'=>∃g,e=.returned (.slice (some ⟨g,0,none⟩) F.blocks.length F.blocks.length)∧
  w'.ownsRow w.heap.size 4 1 (.slice (some ⟨g,0,none⟩) F.blocks.length F.blocks.length) F.blocks.length (((YaQ (RF F r) F.blocks.length 0).set 0 (decide (r≠0))).map Value.bool)∧Below w.heap.size w w':=by
 have hfr:=Lh (fun(w':World) (h:Below W.heap.size W w')=>Ymn hF h n1 n2 0 r);obtain⟨A0,c0,A1,c1,A2,c2,rfl,l0,l1,l2,-⟩:=id hF.open_;unfold Len at *;have hWs:=hW.size;have hb0:=(Br w.heap.size w).alloc (Nr _) (.cells #[.slice A0 F.vars.length c0,.slice A1 F.params.length c1,.slice A2 F.blocks.length c2] 26);have e:(r !=0)=decide (r≠0):=by by_cases h:r=0<;>simp[h]
 generalize decide (r≠0)=b at *;generalize YaQ (RF F r) F.blocks.length 0=t at *;go_enter Tryz.func99,Tryz.ntmps99;go_wp2_with fail;refine(hfr.out _ (hW.trans (hb0.mono hWs))).mono ?_;rintro e' w1 ⟨g,rfl,ho,hb⟩;have ho':=Yda ho (B':=w.heap.size) ZS;have hgl:=(ho.lt _ rfl);have hfz:=ho.frozenAt 0;have hc0:=YaR ho (i:=0) ZO;go_wp2;go_ret;refine⟨_,rfl,?_,?_⟩
 · rw[← Yev];exact(ho'.stored 0 (.bool b)).1
 · exact(hb0.trans (hb.mono ZS)).setCell (by simp at hgl ⊢;omega) _
theorem Ymo{w:World}{B e g n b o:Nat}{k:IntKind}{x:Int}{t:List Bool}(h:w.ownsRow B e 1 (.slice (some ⟨g,0,none⟩) n n) n (t.map Value.bool))(hc:w.cell? ⟨b,o,none⟩=some (.int k x)):b≠g:=by
 rintro rfl
 by_cases ho:o<n
 · rw[YaR h ho]at hc
   cases hc
 · rcases h.2 with⟨h0,_⟩|⟨g',cap,cur,hv,hg,hh,hn,hcap,hsz,_⟩
   · cases h0
   · cases hv
     rw[cell_of_row w b o cur e (0,0) hh,Array.getElem?_eq_none ZO]at hc;cases hc
def YW(n:Nat)(l:List Nat):List Bool:=(List.range n).map fun x=>decide (x∈l)
theorem YcD{n:Nat}{l:List Nat}:(YW n l).length=n:=by simp[YW]
theorem Ymp{n:Nat}:YW n []=List.replicate n false:=by
 refine List.ext_getElem (by simp[YW]) fun i h1 h2=>?_
 simp[YW]
theorem Ymq{n x:Nat}{l:List Nat}:(YW n l).set x true=YW n (l++[x]):=by
 refine List.ext_getElem (by simp[YW]) fun i h1 h2=>?_
 rw[List.getElem_set]
 by_cases h:x=i
 · subst h;simp[YW]
 · rw[if_neg h]
   have:¬i=x:=fun e=>h e.symm
   simp[YW,this]
set_option maxHeartbeats 4000000 in
theorem Ymr{W w:World}{fv:Value}{F:PFunc}(hF:FnV W W.heap.size fv F)(hW:Below W.heap.size W w)(hT:Yd F=true) :
 Calls Tryz.prog 96 #[fv] w fun e w'=>∃g,e=.returned (.slice (some ⟨g,0,none⟩) F.blocks.length F.blocks.length)∧
  w'.ownsRow w.heap.size 4 1 (.slice (some ⟨g,0,none⟩) F.blocks.length F.blocks.length) F.blocks.length ((YW F.blocks.length (postO F).reverse).map Value.bool)∧Below w.heap.size w w':=by
 have hor:=Lh (fun(w':World) (h:Below W.heap.size W w')=>Yhk hF h hT);obtain⟨n1,n2⟩:=Y1 (Yx hT);have fin:=Lh (Ycn hT);have hlt:=Lh (fun(x:Nat) (hx:x∈(postO F).reverse)=>fin.out.lt x (List.mem_reverse.1 hx));obtain⟨A0,c0,A1,c1,A2,c2,rfl,l0,l1,l2,-⟩:=id hF.open_;unfold Len at *;have hWs:=hW.size;have hb0:=(Br w.heap.size w).alloc (Nr _) (.cells #[.slice A0 F.vars.length c0,.slice A1 F.params.length c1,.slice A2 F.blocks.length c2] 26);obtain⟨ib,hib,hz0,hz1,hz2⟩:=info_parts Tryz.info4;generalize (postO F).reverse=L at *;clear hT fin;go_enter Tryz.func96,Tryz.ntmps96
 go_wp2_with(
  at_make;refine wpList_make_full _ rfl _ _ 62 rfl (w.heap.size+1) 4 ib _ 1 Tryz.underlying62 hib hz0 hz1 _ _ _ _ _ rfl rfl rfl rfl (by rw[hz2];omega) (by unfold maxLen;omega) ZS ?_;intro w1 hs1 hg1
  have hs2:w1.ownsRow (w.heap.size+1) 4 1 (.slice (some ⟨w.heap.size+1,0,none⟩) F.blocks.length F.blocks.length) F.blocks.length ((YW F.blocks.length []).map Value.bool):=by rw[Ymp];simpa[Value.cells,toList_madeCells_one]using hs1
  have hg2:(w.alloc (.cells #[.slice A0 F.vars.length c0,.slice A1 F.params.length c1,.slice A2 F.blocks.length c2] 26)).grownBy w1 none:=hg1;have hbx:Below (w.heap.size+1) (w.alloc (.cells #[.slice A0 F.vars.length c0,.slice A1 F.params.length c1,.slice A2 F.blocks.length c2] 26)) w1:=(Br _ _).grown hg2 ZS (fun k hk=>by cases hk);obtain⟨hq,hq0,hq1,hq2⟩:=Yn hbx
  clear hs1 hg1 hg2)
 have hB:=hb0.trans (hbx.mono (Nat.le_succ _));refine(hor.out _ (hW.trans (hB.mono hWs))).mono ?_;(rintro e w3 ⟨A3,c3,rfl,l3,k3,r3,hb3⟩;obtain⟨hc3,hf3⟩:=Ya hb3;have hz3:=hb3.size;try simp at hz3;try have hy3:=Nl hz3;try have hx3:=Ns hy3;try have hw3:=Ns hx3);have hs3:=Yu hs2 hb3;have hB3:=hB.trans (hb3.mono hB.size);have hlen:(Yf L).length=L.length:=by simp[Yf]
 have hith:∀i,i<L.length→ith (Yf L) i=((L.getD i 0:Nat):Int):=fun i hi=>by simp[ith,Yf,List.getD,hi]
 replace hith:=Lh hith;have hlen':=Lh hlen;rw[hlen]at l3 ⊢;unfold Len at l3;clear hq0 hq1 hq2 hs2 hc3 hf3 hlen k3;go_wp2_with fail
 go_loopw[13] (fun i wr=>∃n:Nat,i=.int .i64 n∧n≤L.length∧w3.heap.size≤wr.heap.size∧(∀p:Addr,p.block≠w.heap.size+1→wr.cell? p=w3.cell? p)∧Below w.heap.size w wr∧wr.ownsRow (w.heap.size+1) 4 1 (.slice (some ⟨w.heap.size+1,0,none⟩) F.blocks.length F.blocks.length) F.blocks.length ((YW F.blocks.length (L.take n)).map Value.bool)) (fun i _=>L.length-(intOf i).toNat)
 case atStart=>exact⟨0,rfl,Nz _,Nr _,fun _ _=>rfl,hB3,by simpa using hs3⟩
 case round=>as_aux_lemma=>
  obtain⟨n,rfl,hn,hsz,hsame,hb,ho⟩:=hrel
  by_cases hnl:n<L.length
  · obtain⟨b,off,rfl,hbl,hc⟩:=r3.int (Br _ _) (i:=n) (by rw[hlen'.out];exact hnl)
    have hbne:=Ymo hs3 hc;rw[hith.out n hnl]at hc;have hmem:L.getD n 0∈L:=by rw[YL hnl];exact List.getElem_mem hnl
    have hbn:=hlt.out _ hmem;have hst:L.take (n+1)=L.take n++[L.getD n 0]:=by rw[List.take_succ_eq_append_getElem hnl,YL hnl]
    have HST:=Lh hst;have hcr:=(hsame ⟨b,off+n,none⟩ hbne).trans hc;have hbl':=Nt hbl hsz;generalize L.getD n 0=c at *;have hcell:=YaR ho hbn;have hfz:=ho.frozenAt c;have hgl:=(ho.lt _ rfl).2;have HSM:=Lh hsame;clear hst hc hsame;go_wp2;go_roundw
    case rel=>
     refine⟨n+1,ZN,ZO,by simpa using hsz,fun p hp=>?_,hb.setCell (Nat.le_succ _) _,?_⟩
     · rw[World.cell?_setCell_other (h:=fun e=>hp (by rw[← e]))]
       exact HSM.out p hp
     · rw[HST.out,← Ymq,← Yev]
       exact(ho.stored c (.bool true)).1
    case measure=>simp[intOf];omega
  · obtain rfl:n=L.length:=by omega
    rw[List.take_length]at ho;clear hsame;go_wp2;go_ret;exact⟨_,rfl,Yda ho (Nat.le_succ _),hb⟩
def YhO(w:World)(bs:List Bool)(e:Ending)(w':World):Prop:=
 ∃g,e=.returned (.slice (some ⟨g,0,none⟩) bs.length bs.length)∧w'.ownsRow w.heap.size 4 1 (.slice (some ⟨g,0,none⟩) bs.length bs.length) bs.length (bs.map Value.bool)∧Below w.heap.size w w'
theorem Yqe{W w:World}{fv:Value}{F:PFunc}(hU:Uni W)(hF:FnV W W.heap.size fv F)(hW:Below W.heap.size W w)(hS:YU F)(hT:Yd F=false) :
 Calls Tryz.prog 54 #[fv] w fun e w'=>e=.returned (.slice none 0 0)∧Below w.heap.size w w':=by
 have hr:=fun(w:World) (h:Below W.heap.size W w)=>YbZ hU hF h hS
 rw[hT]at hr;have hWs:=hW.size;obtain⟨A0,c0,A1,c1,A2,c2,rfl,-⟩:=id hF.open_;clear hT;go_enter Tryz.func54,Tryz.ntmps54;go_wp2_with(go_at_call 90;refine(hr _ BL).mono ?_;(rintro e w1 ⟨rfl,hb1⟩;obtain⟨hc1,hf1⟩:=Ya hb1;have hz1:=hb1.size;try simp at hz1;try have hy1:=Nl hz1;try have hx1:=Ns hy1;try have hw1:=Ns hx1));go_ret;exact⟨rfl,BL⟩
theorem Yms{W w:World}{fv:Value}{F:PFunc}(hU:Uni W)(hF:FnV W W.heap.size fv F)(hW:Below W.heap.size W w)(hS:YU F)(hT:Yd F=true) :
 Calls Tryz.prog 54 #[fv] w (YhO w (YW F.blocks.length (postO F).reverse)):=by
 have hr:=fun(w:World) (h:Below W.heap.size W w)=>YbZ hU hF h hS
 have ho:=fun(w:World) (h:Below W.heap.size W w)=>Ymr hF h hT
 rw[hT]at hr;have hWs:=hW.size;obtain⟨A0,c0,A1,c1,A2,c2,rfl,-⟩:=id hF.open_;clear hT;have hl:(YW F.blocks.length (postO F).reverse).length=F.blocks.length:=YcD;unfold YhO;rw[hl];generalize YW F.blocks.length (postO F).reverse=L at *;clear hl;have hb0:=(Br w.heap.size w).alloc (Nr _) (.cells #[.slice A0 F.vars.length c0,.slice A1 F.params.length c1,.slice A2 F.blocks.length c2] 26);go_enter Tryz.func54,Tryz.ntmps54;go_wp2_with(first|(go_at_call 90;refine(hr _ BL).mono ?_;(rintro e w1 ⟨rfl,hb1⟩;obtain⟨hc1,hf1⟩:=Ya hb1;have hz1:=hb1.size;try simp at hz1;try have hy1:=Nl hz1;try have hx1:=Ns hy1;try have hw1:=Ns hx1))|(go_at_call 96;refine(ho _ BL).mono ?_;rintro e w2 ⟨g,rfl,ho2,hb2⟩));go_ret;exact⟨_,rfl,Yda ho2 ZO,BL⟩
end Go.Proofs.YtjlclkcmfokobaaGreatDoor
namespace Go.Proofs.YtjlclkcmfokobaaGreatDoor
open Go.RowKit
theorem YfZ{F:PFunc}(h:Yd F=true){x y:Nat}(hx:x<F.blocks.length):RF F (-1) x y↔y∈EN F x:=by
 rw[Ybg h hx];constructor
 · exact fun h=>h.2.2.2.2
 · intro hl
   have hy:=Yc1 h hx y ((Ybg h hx).2 hl);exact⟨hx,hy,ZO,ZO,hl⟩
theorem Yf0{n x:Nat}{l:List Nat}(hx:x<n):(YW n l).getD x false=true↔x∈l:=by simp[YW,List.getD,hx]
theorem YhP{F:PFunc}(h:Yd F=true):∀{l:List Nat},ParOk (EN F) [] l→(∀v∈l,v<F.blocks.length)→∀v∈l,v=0∨YbF (RF F (-1)) 0 v
 |[],_,_,v,hv=>by cases hv
 |u::post,hp,hl,v,hv=>by
  have ih:=YhP h hp.2 (fun v hv=>hl v (by simp[hv]));rcases List.mem_cons.1 hv with e|e
  · subst e
    rcases hp.1 with e|⟨p,h1,h2|h2⟩
    · exact .inl e
    · cases h2
    · have hr:=(YfZ h (hl p (by simp[h2]))).2 h1
      rcases ih p h2 with e|e
      · subst e;exact .inr (.one hr)
      · exact .inr (.more e hr)
  · exact ih v e
theorem Ymt{F:PFunc}(h:Yd F=true){x:Nat}:x∈postO F↔x=0∨YbF (RF F (-1)) 0 x:=by
 have fin:=Ycn h;have h0:0∈postO F:=List.mem_of_getLast? fin.last;constructor
 · exact YhP h fin.par fin.lt x
 · rintro(e|e)
   · subst e;exact h0
   · induction e with
     |one hr=>exact fin.clo 0 h0 _ ((YfZ h hr.1).1 hr)
     |more _ hr ih=>exact fin.clo _ ih _ ((YfZ h hr.1).1 hr)
theorem YhQ{F:PFunc}(h:Yd F=true):YW F.blocks.length (postO F).reverse=(YaQ (RF F (-1)) F.blocks.length 0).set 0 (decide ((-1:Int)≠0)):=by
 have n1:=(Y1 (Yx h)).1;refine YhN (by simp[YW,YaQ]) fun x hx=>?_
 rw[YcD]at hx;rw[Yf0 hx,List.mem_reverse,Ymt h,show decide ((-1:Int)≠0)=true from rfl,getD_set_true (by rw[Yet];omega),Yeu hx]
end Go.Proofs.YtjlclkcmfokobaaGreatDoor
namespace Go.Proofs.YtjlclkcmfokobaaGreatDoor
open Go.RowKit
theorem YhR{F:PFunc}{a b:Nat}:∀{i:Nat},a∈Yq F b i↔a<i∧leads (F.blk a).term (b:Int)=true
 |0=>by simp[Yq]
 |i+1=>by
  have ih:=YhR (F:=F) (a:=a) (b:=b) (i:=i);rw[Yq]
  by_cases hl:leads (F.blk i).term (b:Int)=true
  · rw[if_pos hl,List.mem_append,ih,List.mem_singleton]
    constructor
    · rintro(⟨h1,h2⟩|rfl)
      · exact⟨ZO,h2⟩
      · exact⟨ZO,hl⟩
    · rintro⟨h1,h2⟩
      rcases Nat.lt_succ_iff_lt_or_eq.1 h1 with h|h
      · exact .inl ⟨h,h2⟩
      · exact .inr h
  · rw[if_neg hl,ih]
    constructor
    · rintro⟨h1,h2⟩
      exact⟨ZO,h2⟩
    · rintro⟨h1,h2⟩
      rcases Nat.lt_succ_iff_lt_or_eq.1 h1 with h|h
      · exact⟨h,h2⟩
      · subst h;exact absurd h2 hl
def PR(F:PFunc)(b:Nat):List Nat:=Yq F b F.blocks.length
theorem YdO{F:PFunc}(h:Yd F=true){a b:Nat}:a∈PR F b↔a<F.blocks.length∧b∈EN F a:=by
 unfold PR;rw[YhR];constructor
 · rintro⟨h1,h2⟩;exact⟨h1,(Ybg h h1).2 h2⟩
 · rintro⟨h1,h2⟩;exact⟨h1,(Ybg h h1).1 h2⟩
theorem Ymu{F:PFunc}(h:Yd F=true){b:Nat}(hb:b<F.blocks.length):(YaO F).getD b []=Yf (PR F b):=Yes h hb _ (Nr _)
theorem Ymv{F:PFunc}(b:Nat):(PR F b).length≤F.blocks.length:=YfX _
def OR(F:PFunc):List Nat:=(postO F).reverse
theorem Yf1:∀(n:Nat) (l:List Nat),l.Nodup→(∀x∈l,x<n)→l.length≤n
 |0,l,_,hl=>by
  cases l with
  |nil=>simp
  |cons x r=>exact absurd (hl x ZS) (Nat.not_lt_zero _)
 |n+1,l,hn,hl=>by
  by_cases hm:n∈l
  · have ih:=Yf1 n (l.erase n) (hn.erase n) (fun x hx=>by
     have h1:=hl x (List.mem_of_mem_erase hx);have h2:x≠n:=fun e=>by subst e;exact(hn.not_mem_erase) hx
     omega)
    rw[List.length_erase_of_mem hm]at ih;omega
  · have ih:=Yf1 n l hn (fun x hx=>by
     have h1:=hl x hx;have h2:x≠n:=fun e=>by subst e;exact hm hx
     omega)
    omega
theorem YdP{F:PFunc}(h:Yd F=true):GrOk F.blocks.length (OR F) (PR F):=by
 have fin:=Ycn h;have hlt:∀x∈OR F,x<F.blocks.length:=fun x hx=>fin.lt x (List.mem_reverse.1 hx)
 refine⟨Ymj h,Ye5 fin.nod,hlt,fun b a ha=>((YdO h).1 ha).1,fun {a b} ha hp=>List.mem_reverse.2 (fin.clo a (List.mem_reverse.1 ha) b ((YdO h).1 hp).2),fun {b} hb h0=>?_⟩;rcases YfW fin (List.mem_reverse.1 hb)with e|⟨a,h1,h2,h3⟩
 · exact absurd e h0
 · exact⟨a,List.mem_reverse.2 h1,(YdO h).2 ⟨fin.lt a h1,h2⟩,h3⟩
theorem Ymw{F:PFunc}(h:Yd F=true):(OR F).length≤F.blocks.length:=Yf1 _ _ (YdP h).nod (YdP h).lt
end Go.Proofs.YtjlclkcmfokobaaGreatDoor
