/- The plain law of MergeRows: a program of checks of places of one array, one behind the other, and what is merged of it. -/
import Derived.Test.YtjlclkcmfokobaaGreatDoorMgNZ
import Derived.Test.YtjlclkcmfokobaaGreatDoorMgXZ
import Derived.Laws.BytesArg
namespace Go.Proofs.YtjlclkcmfokobaaGreatDoor
open Go.RowKit
set_option maxRecDepth 100000
def YqZ(c:UInt8)(k:Nat):ByteArray:=⟨#[c,UInt8.ofNat (48+k / 10),UInt8.ofNat (48+k%10)]⟩
def rwV:Nat→List YaE
 |0=>[⟨⟨#[120,115]⟩,2⟩]
 |k+1=>rwV k++[⟨YqZ 105 k,0⟩,⟨YqZ 118 k,0⟩]
def rwT(k:Nat)(p:Int):List PInst:=[⟨0,((2*k+1:Nat):Int),[],p⟩,chk 0 ((2*k+1:Nat):Int),⟨13,((2*k+2:Nat):Int),[0,((2*k+1:Nat):Int)],0⟩]
def rwI(ps:List Int):Nat→List PInst
 |0=>[]
 |k+1=>rwI ps k++rwT k (ith ps k)
def rwF(ps:List Int)(n:Nat):PFunc:=⟨rwV n,[0],[⟨⟨#[97]⟩,[],rwI ps n,⟨2,((2*n:Nat):Int),0,0⟩⟩]⟩
def Yq8(n:Nat):Bool:=Yv (rwF [] n)&&Yd (rwF [] n)&&Yai (rwF [] n)&&Ybh (rwF [] n)&&Yr (rwF [] n)&&noPi (rwF [] n)
theorem Yrt:∀n,n<41→0<n→Yq8 n=true:=by decide +kernel
theorem Yru:∀n,n<41→0<n→∀T,YH (rwF [] n) T 0=true:=by
 intro n q
 iterate 41 (refine(Nat.lt_succ_iff_lt_or_eq.1 q).elim ?_ (by rintro rfl;intro _ T;kernel_rfl);clear q;intro q)
 exact absurd q (Nat.not_lt_zero _)
theorem Yq3:∀n,(rwV n).length=2*n+1
 |0=>rfl
 |n+1=>by
  rw[rwV,List.length_append,Yq3 n];rfl
theorem Yq4{ps:List Int}:∀n,(rwI ps n).length=3*n
 |0=>rfl
 |n+1=>by
  rw[rwI,List.length_append,Yq4 n];rfl
def stI(x:PInst):PInst:=⟨x.op,x.dst,x.args,if x.op=0 then 0 else x.num⟩
section
variable {ps:List Int} {n:Nat}
theorem Yq0:∀n,(rwI ps n).map stI=rwI [] n
 |0=>rfl
 |n+1=>by
  rw[rwI,rwI,List.map_append,Yq0 n];rfl
theorem Yq1:rwF ps n=imF (fun _=>rwI ps n) (rwF [] n):=rfl
theorem Yq2:(rwI ps n).length=(rwI [] n).length:=by rw[← Yq0 (ps:=ps) n,List.length_map]
theorem Yq9{j:Nat}(hj:j<(rwI ps n).length):((rwF [] n).blk 0).inst j=stI (((rwF ps n).blk 0).inst j):=by
 have h:=Yq0 (ps:=ps) n;show(rwI [] n).getD j default=stI ((rwI ps n).getD j default);rw[← h];simp[List.getD,hj]
theorem Yrv{F:PFunc}{x:PInst}:Ym F x=Ym F (stI x):=by
 unfold Ym stI YaX
 by_cases h:x.op=0
 · simp[h]
 · simp[h]
theorem Yrw{F:PFunc}{x:PInst}:YE F x=YE F (stI x):=rfl
theorem Yra:∀{l:List PInst} {m:Nat},YaU m (l.map stI)=YaU m l
 |[],_=>rfl
 |x::l,m=>by
  rw[List.map_cons,YaU,YaU,Yra];rfl
theorem Yrb:∀{l:List PInst},Yo (l.map stI)=Yo l
 |[]=>rfl
 |x::l=>by
  rw[List.map_cons,Yo,Yo,Yrb];rfl
theorem Yrx(h:Yv (rwF [] n)=true):Yv (rwF ps n)=true:=by
 have e:Yv (rwF ps n)=Yv (rwF [] n):=by
  unfold Yv;congr 1;show(YcI _ ⟨⟨#[97]⟩,[],rwI ps n,_⟩&&true)=(YcI _ ⟨⟨#[97]⟩,[],rwI [] n,_⟩&&true);rw[← Yq0 (ps:=ps) n];unfold YcI Y9;simp only[List.length_map,Yra,Yrb];rfl
 rw[e];exact h
theorem Yry(h:Yd (rwF [] n)=true):Yd (rwF ps n)=true:=by
 unfold Yd Yj at *;simp only[Bool.and_eq_true,decide_eq_true_eq]at h ⊢;obtain⟨⟨⟨h1,h2⟩,h3⟩,h4⟩:=h;refine⟨⟨⟨h1,?_⟩,?_⟩,?_⟩
 · rw[List.all_eq_true]at h2⊢
   intro b hb;obtain rfl:b=⟨⟨#[97]⟩,[],rwI ps n,⟨2,((2*n:Nat):Int),0,0⟩⟩:=List.mem_singleton.1 hb;have h:=h2 ⟨⟨#[97]⟩,[],rwI [] n,⟨2,((2*n:Nat):Int),0,0⟩⟩ (List.mem_singleton.2 rfl);unfold YaJ at h ⊢;rw[Yq1,Ypu,Ypv,Ypw];simp only[Bool.and_eq_true,Bool.not_eq_true',List.any_eq_false]at h ⊢;refine⟨⟨h.1.1,fun x hx=>?_⟩,h.2⟩;rw[Yrv];exact h.1.2 (stI x) (by rw[← Yq0 (ps:=ps) n];exact List.mem_map_of_mem hx)
 · show(0+(rwI ps n).length+0)≤1024
   rw[Yq2];exact h3
 · rw[List.all_eq_true]at h4⊢
   intro b hb;obtain rfl:b=⟨⟨#[97]⟩,[],rwI ps n,⟨2,((2*n:Nat):Int),0,0⟩⟩:=List.mem_singleton.1 hb;have h:=h4 ⟨⟨#[97]⟩,[],rwI [] n,⟨2,((2*n:Nat):Int),0,0⟩⟩ (List.mem_singleton.2 rfl);unfold YK at h ⊢;simp only[Bool.and_eq_true]at h ⊢;refine⟨⟨rfl,?_⟩,h.2⟩;rw[List.all_eq_true];intro x hx;rw[Yq1,Ypx,Yrw];exact List.all_eq_true.1 h.1.2 (stI x) (by rw[← Yq0 (ps:=ps) n];exact List.mem_map_of_mem hx)
theorem Yrc:evF (rwF ps n)=evF (rwF [] n):=by
 show []++(evPhi _ 0 0++evIns (rwF ps n) 0 (rwI ps n).length)=[]++(evPhi _ 0 0++evIns (rwF [] n) 0 (rwI [] n).length);rw[← Yq2 (ps:=ps)];congr 2;unfold evIns;refine List.map_congr_left fun j hj=>?_
 rw[Yq9 (List.mem_range.1 hj)];rfl
theorem Yrz(h:Yr (rwF [] n)=true):Yr (rwF ps n)=true:=by
 unfold Yr onceAt at *;rw[Yrc];exact h
theorem Yrd{T:Nat→Nat→Bool}{v:Int}{b:Nat}{t:Int}:YC (rwF ps n) T v b t=YC (rwF [] n) T v b t:=by
 unfold YC Yi;rw[Yrc]
theorem YrA{T:Nat→Nat→Bool}(h:YH (rwF [] n) T 0=true):YH (rwF ps n) T 0=true:=by
 unfold YH at *;simp only[Bool.and_eq_true]at h ⊢;refine⟨⟨rfl,?_⟩,?_⟩
 · have h2:=h.1.2
   rw[List.all_eq_true]at h2 ⊢;intro k hk;have hk1:k<(rwI ps n).length:=List.mem_range.1 hk;have h3:=h2 k (List.mem_range.2 (show k<(rwI [] n).length by rw[← Yq2 (ps:=ps)];exact hk1));unfold instBe at *;rw[Yq9 hk1]at h3;rw[List.all_eq_true]at h3 ⊢;intro v hv;rw[Yrd];exact h3 v hv
 · have h2:=h.2
   unfold Yc9 at *;rw[Yrd];have e:(((rwF ps n).blk 0).insts.length:Int)=(((rwF [] n).blk 0).insts.length:Int):=congrArg _ Yq2;rw[e];exact h2
theorem Yq5(h0:0<n)(h1:n≤40):Yv (rwF ps n)=true∧Yd (rwF ps n)=true∧Yr (rwF ps n)=true∧Yao (rwF ps n)=true:=by
 have h:=Yrt n ZO h0;unfold Yq8 at h;simp only[Bool.and_eq_true]at h;obtain⟨⟨⟨⟨⟨h2,h3⟩,h4⟩,h5⟩,h6⟩,h7⟩:=h;have hT:=Yry (ps:=ps) h3;have hO:=Yrz (ps:=ps) h6;refine⟨Yrx h2,hT,hO,?_⟩;rw[YeN,hT];unfold YaC Yak;have e1:Yai (rwF ps n)=true:=by rw[Yq1];exact Ypr h4
 have e2:Ybh (rwF ps n)=true:=by rw[Yq1];exact Ypq h5
 have e3:noPi (rwF ps n)=true:=by
  unfold noPi at *;rw[List.all_eq_true]at h7 ⊢;intro b hb;obtain rfl:b=⟨⟨#[97]⟩,[],rwI ps n,⟨2,((2*n:Nat):Int),0,0⟩⟩:=List.mem_singleton.1 hb;have h:=h7 ⟨⟨#[97]⟩,[],rwI [] n,⟨2,((2*n:Nat):Int),0,0⟩⟩ (List.mem_singleton.2 rfl);rw[List.all_eq_true]at h ⊢;intro x hx;exact h (stI x) (by rw[← Yq0 (ps:=ps) n];exact List.mem_map_of_mem hx)
 rw[e1,e2,hO,e3];simp only[Bool.true_and,Bool.and_true];refine List.all_eq_true.2 fun i hi=>?_
 obtain rfl:i=0:=by
  have:i<1:=List.mem_range.1 hi;omega
 exact YrA (Yru n ZO h0 _)
theorem Yq6{y:PInst}:∀{n:Nat},y∈rwI ps n→∃k,k<n∧y∈rwT k (ith ps k)
 |0,h=>by cases h
 |n+1,h=>by
  rw[rwI]at h;rcases List.mem_append.1 h with h|h
  · obtain⟨k,hk,h2⟩:=Yq6 h
    exact⟨k,ZO,h2⟩
  · exact⟨n,ZO,h⟩
theorem Yq7{y:PInst}:∀{n k:Nat},k<n→y∈rwT k (ith ps k)→y∈rwI ps n
 |0,_,h,_=>by omega
 |n+1,k,h,hy=>by
  rw[rwI,List.mem_append]
  by_cases hk:k<n
  · exact .inl (Yq7 hk hy)
  · obtain rfl:k=n:=by omega
    exact .inr hy
theorem Yre{k:Nat}{p:Int}{y:PInst}(h:y∈rwT k p):(y.op=0∧y.dst=((2*k+1:Nat):Int)∧y.num=p∧y.args=[])∨y=chk 0 ((2*k+1:Nat):Int)∨(y.op=13∧y.num=0):=by
 simp only[rwT,List.mem_cons,List.not_mem_nil,or_false]at h;rcases h with rfl|rfl|rfl
 · exact .inl ⟨rfl,rfl,rfl,rfl⟩
 · exact .inr (.inl rfl)
 · exact .inr (.inr ⟨rfl,rfl⟩)
theorem Yrf(h0:0<n)(h1:n≤40){k:Nat}(hk:k<n):kF (rwF ps n) ((2*k+1:Nat):Int)=some (ith ps k):=by
 obtain⟨-,hT,hO,-⟩:=Yq5 (ps:=ps) h0 h1;have hy:(⟨0,((2*k+1:Nat):Int),[],ith ps k⟩:PInst)∈rwI ps n:=Yq7 hk (by simp[rwT]);cases h:kF (rwF ps n) ((2*k+1:Nat):Int) with
 |none=>exact absurd rfl ((YeK h).2 _ (List.mem_singleton.2 rfl) _ hy rfl)
 |some m=>
  have h2:=(YjM hT hO h (i:=0) Nat.zero_lt_one (y:=⟨0,((2*k+1:Nat):Int),[],ith ps k⟩) hy rfl ZO).2;rw[← h2]
theorem YrB(hp:∀k,k<n→0≤ith ps k∧ith ps k<256):∀b∈(rwF ps n).blocks,∀x∈b.insts,(Lit.int .i64 x.num).wf=true:=by
 intro b hb x hx;obtain rfl:b=⟨⟨#[97]⟩,[],rwI ps n,⟨2,((2*n:Nat):Int),0,0⟩⟩:=List.mem_singleton.1 hb;obtain⟨k,hk,h⟩:=Yq6 hx;have hb:0≤x.num∧x.num<256:=by
  rcases Yre h with⟨-,-,e,-⟩|rfl|⟨-,e⟩
  · rw[e];exact hp k hk
  · exact⟨Int.le_refl 0,(by decide:(0:Int)<256)⟩
  · rw[e];exact⟨ZD,ZD⟩
 simp[Lit.wf,IntKind.min,IntKind.max,IntKind.signed,IntKind.bits];omega
def rwM(ps:List Int):Nat→Int
 |0=>0
 |k+1=>if rwM ps k<ith ps k then ith ps k else rwM ps k
theorem Yrg:∀{n k:Nat},k<n→ith ps k≤rwM ps n
 |0,_,h=>by omega
 |n+1,k,h=>by
  rw[rwM]
  by_cases hk:k<n
  · have:=Yrg hk
    split<;>omega
  · obtain rfl:k=n:=by omega
    split<;>omega
theorem Yrh:∀n,rwM ps n=0∨∃k,k<n∧rwM ps n=ith ps k
 |0=>.inl rfl
 |n+1=>by
  rw[rwM];split
  · exact .inr ⟨n,ZO,rfl⟩
  · rcases Yrh n with h|⟨k,hk,h⟩
    · exact .inl h
    · exact .inr ⟨k,ZO,h⟩
theorem Yri{k:Int→Option Int}{a b v:Int}{m:Nat}{l:List PInst}:∀{j:Nat},j≤l.length→b≤(gat k a m b v l j).2.1∧∀(i:Nat) (y:PInst) (p:Int),i<j→i<m→l[i]?=some y→fixP k y=some p→ith y.args 0=a→p≤(gat k a m b v l j).2.1
 |0,_=>⟨Int.le_refl _,fun i _ _ h=>ZO⟩
 |j+1,h=>by
  obtain⟨h1,h2⟩:=Yri (k:=k) (a:=a) (b:=b) (v:=v) (m:=m) (l:=l) (j:=j) ZO;have h3:l[j]?=some (l[j]'(ZO)):=List.getElem?_eq_getElem ZO;generalize l[j]'(ZO)=y at h3;rw[YbC h3];have hle:(gat k a m b v l j).2.1≤(Ya4 k a m j y (gat k a m b v l j)).2.1:=by
   cases hf:fixP k y with
   |none=>rw[Ycs hf];exact Int.le_refl _
   |some p=>
    by_cases hn:j<m∧ith y.args 0=a
    · by_cases hm:(gat k a m b v l j).2.1<p
      · rw[YcU hf hn hm];exact Int.le_of_lt hm
      · rw[YcV hf hn hm];exact Int.le_refl _
    · rw[Ycg hf hn];exact Int.le_refl _
  refine⟨Int.le_trans h1 hle,fun i z p hi him hz hp ha=>?_⟩
  by_cases hij:i<j
  · exact Int.le_trans (h2 i z p hij him hz hp ha) hle
  · obtain rfl:i=j:=by omega
    rw[h3]at hz;cases hz
    by_cases hm:(gat k a m b v l i).2.1<p
    · rw[YcU hp ⟨him,ha⟩ hm];exact Int.le_refl _
    · rw[YcV hp ⟨him,ha⟩ hm];exact Int.not_lt.1 hm
theorem Yrj{p q:PInst→Bool}{l:List PInst}:(l.filter p).filter q=(l.filter q).filter p:=by
 rw[List.filter_filter,List.filter_filter];refine List.filter_congr fun y _=>?_
 rw[Bool.and_comm]
theorem Yrk:∀{l:List PInst},(∀y∈l,isQ y=true)→l.takeWhile isQ=l
 |[],_=>rfl
 |x::l,h=>by
  rw[List.takeWhile_cons,h x ZS,if_pos rfl,Yrk fun y hy=>h y (by simp[hy])]
theorem Yrl:∀n,0<n→∃R,rwI ps n=⟨0,((1:Nat):Int),[],ith ps 0⟩::chk 0 ((1:Nat):Int)::R∧(R.filter fun y=>decide (y.op≠18)).length=2*n-1∧(R.filter fun y=>decide (y.op=13)).length=n
 |0,h=>by omega
 |1,_=>⟨[⟨13,((2:Nat):Int),[0,((1:Nat):Int)],0⟩],rfl,rfl,rfl⟩
 |n+2,_=>by
  obtain⟨R,h1,h2,h3⟩:=Yrl (n+1) ZO;refine⟨R++rwT (n+1) (ith ps (n+1)),by rw[rwI,h1];rfl,?_,?_⟩
  · rw[List.filter_append,List.length_append,h2]
    show _+2=_;omega
  · rw[List.filter_append,List.length_append,h3]
    rfl
theorem YrC(hp:∀k,k<n→0≤ith ps k)(h0:0<n)(h1:n≤40):∃A v B,mrgL (kF (rwF ps n)) (rwI ps n)=A++chk 0 v::B∧(∀y∈A,y.op=0)∧(∀y∈B,y.op=0∨y.op=13)∧A.length+B.length=2*n∧(B.filter fun y=>decide (y.op=13)).length=n∧Yav (mrgF (rwF ps n)) (chk 0 v)=rwM ps n:=by
 obtain⟨-,hT,hO,-⟩:=Yq5 (ps:=ps) h0 h1;have hG:GoodL (kF (rwF ps n)) (rwI ps n):=Ycb hT hO (List.mem_singleton.2 rfl);obtain⟨R,hR,hc1,hc2⟩:=Yrl (ps:=ps) n h0;have hk0:=Yrf (ps:=ps) h0 h1 h0;have hK:=fun k hk=>Yrf (ps:=ps) h0 h1 (k:=k) hk
 have hkm:=fun v (h:0≤v)=>YpO (v:=v) hT hO h
 have hTm:=YgE hT hO;have hOm:=YgF hT hO;generalize kF (rwF ps n)=κ at *;have hmem:∀y∈R,y.op=0∨y.op=13∨∃k,k<n∧y=chk 0 ((2*k+1:Nat):Int):=fun y hy=>by
  obtain⟨k,hk,h⟩:=Yq6 (ps:=ps) (n:=n) (y:=y) (by rw[hR];simp[hy]);rcases Yre h with⟨e,-⟩|rfl|⟨e,-⟩
  · exact .inl e
  · exact .inr (.inr ⟨k,hk,rfl⟩)
  · exact .inr (.inl e)
 have hQ:∀y∈R,isQ y=true:=fun y hy=>by
  unfold isQ;rcases hmem y hy with e|e|⟨k,-,rfl⟩
  · rw[e];rfl
  · rw[e];rfl
  · rfl
 have hfx:∀k,k<n→fixP κ (chk 0 ((2*k+1:Nat):Int))=some (ith ps k):=fun k hk=>by
  show(if(18:Int)=18 then(κ ((2*k+1:Nat):Int)).bind fun n=>if 0≤n then some n else none else none)=_;rw[if_pos rfl,hK k hk];exact if_pos (hp k hk)
 have htw:R.takeWhile isQ=R:=by
  exact Yrk hQ
 have hdw:R.dropWhile isQ=[]:=by
  have h:=List.takeWhile_append_dropWhile (p:=isQ) (l:=R);rw[htw]at h;exact List.append_right_eq_self.1 h
 have hth:thin κ 0 R=R.filter fun y=>decide (y.op≠18):=by
  unfold thin;rw[htw,hdw,List.append_nil];refine List.filter_congr fun y hy=>?_
  rcases hmem y hy with e|e|⟨k,hk,rfl⟩
  · rw[Ypd e,e];rfl
  · have:YY κ 0 y=false:=by
     cases hf:YY κ 0 y with
     |false=>rfl
     |true=>have:=YgA hf;omega
    rw[this,e];rfl
  · unfold YY
    rw[hfx k hk];rfl
 have hc0:fixP κ (⟨0,((1:Nat):Int),[],ith ps 0⟩:PInst)=none:=rfl;have hf0:fixP κ (chk 0 ((1:Nat):Int))=some (ith ps 0):=hfx 0 h0;have hg2:GoodL κ (chk 0 ((1:Nat):Int)::R):=hG.sub fun y hy=>by rw[hR];exact List.mem_cons_of_mem _ hy
 have hgR:GoodL κ R:=hg2.sub fun y hy=>by simp[hy]
 have hb:=Yjk (a:=0) (n:=Yl R) (b:=ith ps 0) (v:=((1:Nat):Int)) (l:=R) (k:=κ) hk0 (j:=R.length) (Nr _);have hub:=Yri (a:=0) (m:=Yl R) (b:=ith ps 0) (v:=((1:Nat):Int)) (l:=R) (k:=κ) (j:=R.length) (Nr _);have htn:=Ypc (k:=κ) (a:=0) (b:=ith ps 0) (v:=((1:Nat):Int)) (l:=R);have hS:=Ygu hf0 (l:=R) rfl;have e0:ith (chk 0 ((1:Nat):Int)).args 0=0:=rfl;have e1:ith (chk 0 ((1:Nat):Int)).args 1=((1:Nat):Int):=rfl;rw[e0,e1,htn,hth]at hS;have hwin:Yl R=R.length:=by unfold Yl;rw[htw]
 obtain⟨v,hv⟩:∃v,v=(gat κ 0 (Yl R) (ith ps 0) ((1:Nat):Int) R R.length).2.2:=⟨_,rfl⟩;obtain⟨bst,hbst⟩:∃b,b=(gat κ 0 (Yl R) (ith ps 0) ((1:Nat):Int) R R.length).2.1:=⟨_,rfl⟩;rw[← hv,← hbst]at hb;rw[← hbst]at hub;rw[← hv]at hS;have hvk:∃k,k<n∧v=((2*k+1:Nat):Int):=by
  rcases hb.2 with e|⟨y,hy,h18,-,e⟩
  · exact⟨0,h0,e⟩
  · rcases hmem y hy with e2|e2|⟨k,hk,rfl⟩
    · exact ZO
    · exact ZO
    · exact⟨k,hk,e⟩
 obtain⟨kv,hkv,hvv⟩:=hvk;have hv0:0≤v:=by
  rw[hvv];exact Int.natCast_nonneg _
 have hbk:bst=ith ps kv:=by
  have h2:=hb.1;rw[hvv,hK kv hkv]at h2;exact(Option.some.inj h2).symm
 have hall:∀k,k<n→ith ps k≤bst:=fun k hk=>by
  have hin:chk 0 ((2*k+1:Nat):Int)∈rwI ps n:=Yq7 hk (by simp[rwT]);rw[hR]at hin;rcases List.mem_cons.1 hin with h|h
  · exact absurd (show(18:Int)=0 from congrArg PInst.op h) ZD
  · rcases List.mem_cons.1 h with h|h
    · have h2:((2*k+1:Nat):Int)=((1:Nat):Int):=by
       have h3:=congrArg (fun x:PInst=>ith x.args 1) h;exact h3
      obtain rfl:k=0:=by omega
      exact hub.1
    · obtain⟨i,hi,e⟩:=List.getElem_of_mem h
      exact hub.2 i _ _ hi (by rw[hwin];exact hi) (by rw[List.getElem?_eq_getElem hi,e]) (hfx k hk) rfl
 have hbm:bst=rwM ps n:=by
  have h2:=Yrg (ps:=ps) hkv;rcases Yrh (ps:=ps) n with h3|⟨k,hk,h3⟩
  · have h4:=hall 0 h0
    have h5:=hp 0 h0;omega
  · have h4:=hall k hk
    omega
 obtain⟨M,hM⟩:∃M,M=(R.filter fun y=>decide (y.op≠18)).filter (mvP ((1:Nat):Int) v):=⟨_,rfl⟩;obtain⟨Z,hZ⟩:∃Z,Z=(R.filter fun y=>decide (y.op≠18)).filter (fun y=>!mvP ((1:Nat):Int) v y):=⟨_,rfl⟩;rw[← hM,← hZ]at hS;have hMop:∀y∈M,y.op=0:=fun y hy=>by
  rw[hM,← hth]at hy;exact Yju hgR hv0 (by rw[hvv];exact hK kv hkv) hy
 have hZop:∀y∈Z,y.op=0∨y.op=13:=fun y hy=>by
  rw[hZ]at hy;have h2:=List.mem_filter.1 (List.mem_filter.1 hy).1;have h3:y.op≠18:=by simpa using h2.2
  rcases hmem y h2.1 with e|e|⟨k,-,rfl⟩
  · exact .inl e
  · exact .inr e
  · exact absurd rfl h3
 have hfin:mrgL κ Z=Z:=Sep.self (fun y hy h=>by rcases hZop y hy with e|e<;>omega) fun P x Q e b hx=>by
  have h2:=Ybc hx;rcases hZop x (by rw[e];simp)with h3|h3<;>omega
 have hlen:M.length+Z.length=2*n-1:=by
  rw[hM,hZ,← hc1];exact Yfe _ _
 have hld:(M.filter fun y=>decide (y.op=13)).length+(Z.filter fun y=>decide (y.op=13)).length=n:=by
  have h2:=Yfe (mvP ((1:Nat):Int) v) ((R.filter fun y=>decide (y.op≠18)).filter fun y=>decide (y.op=13));have h3:((R.filter fun y=>decide (y.op≠18)).filter fun y=>decide (y.op=13))=R.filter fun y=>decide (y.op=13):=by
   rw[List.filter_filter];refine List.filter_congr fun y _=>?_
   by_cases e:y.op=13<;>simp[e]
  rw[h3,hc2]at h2;rw[← h2,hM,hZ,Yrj (q:=fun y=>decide (y.op=13)),Yrj (p:=fun y=>!mvP ((1:Nat):Int) v y) (q:=fun y=>decide (y.op=13)),h3]
 have hM0:(M.filter fun y=>decide (y.op=13))=[]:=List.filter_eq_nil_iff.2 fun y hy=>by
  have:=hMop y hy;simp[this]
 rw[hM0]at hld;refine⟨⟨0,((1:Nat):Int),[],ith ps 0⟩::M,v,Z,?_,?_,hZop,?_,?_,?_⟩
 · rw[hR,Ybn,Yca hc0,Ybn,hS,hfin]
   simp
 · intro y hy
   rcases List.mem_cons.1 hy with rfl|hy
   · rfl
   · exact hMop y hy
 · rw[List.length_cons]
   exact(fun(a b n:Nat) (h:a+b=2*n-1) (h0:0<n)=>(by omega:a+1+b=2*n)) _ _ _ hlen h0
 · simpa using hld
 · have hkg:kF (mrgF (rwF ps n)) v=some bst:=by
    rw[hkm v hv0,hvv,hK kv hkv,hbk]
   have hpos:0≤bst:=by rw[hbk];exact hp kv hkv
   have hfp:fixP (kF (mrgF (rwF ps n))) (chk 0 v)=some bst:=by
    show(if(18:Int)=18 then(kF (mrgF (rwF ps n)) v).bind fun n=>if 0≤n then some n else none else none)=_;rw[if_pos rfl,hkg];exact if_pos hpos
   rw[(YoU hTm hOm (x:=chk 0 v) (fun _=>⟨0,v,rfl,hv0⟩) hfp).1,hbm]
end
theorem Yrm{α:Type}{w:World}{N sz:Nat}{cs:Array Value}{e:TypeId}{C:List Value→α→Prop}{xs:List α}(h:BoxAt w N cs e)(ch:List (List Value))(hcs:cs.toList=ch.flatten)(hl:ch.length=xs.length)(hs:∀c∈ch,c.length=sz)(hn:xs.length≤1024)
 (hx:∀(i:Nat) c x,ch[i]?=some c→xs[i]?=some x→C c x):DRow w (fun _=>True) sz C (.slice (some ⟨N,0,none⟩) xs.length xs.length) xs:=by
 refine⟨_,_,rfl,by unfold Len;omega,Nr _,fun i y hy=>?_⟩;have hi:=(List.getElem?_eq_some_iff.1 hy).1;have hc:ch[i]?=some (ch[i]'(ZO)):=List.getElem?_eq_getElem ZO;refine⟨N,0,_,rfl,trivial,h.lt,hs _ (List.getElem_mem ZO),fun j u hu=>?_,hx i _ y hc hy⟩;have hj:j<sz:=by
  have:=(List.getElem?_eq_some_iff.1 hu).1;rw[hs _ (List.getElem_mem ZO)]at this;exact this
 have hf:=Yc7 hs hc hj;rw[Nat.zero_add,h.cell (i*sz+j),← Array.getElem?_toList,hcs,hf];exact hu
theorem Yrn{w:World}{N sz:Nat}{cs:Array Value}{e:TypeId}(h:BoxAt w N cs e)(hs:cs.size=sz)(B:Nat)(hB:B≤N):w.ownsRow B e sz (.slice (some ⟨N,0,none⟩) 1 1) 1 cs.toList:=by
 refine⟨by simp[hs],.inr ⟨N,1,cs,rfl,hB,h,Nr _,ZD,by simp[hs],?_⟩⟩;rw[List.take_of_length_le (by simp[hs])]
theorem Yro(c:UInt8)(k:Nat):(⟨#[c]⟩:ByteArray)++strOfNums [48+(k:Int) / 10,48+(k:Int)%10]=YqZ c k:=by
 have e1:(48+(k:Int) / 10).toNat=48+k / 10:=by omega
 have e2:(48+(k:Int)%10).toNat=48+k%10:=by omega
 refine ByteArray.ext ?_;simp[strOfNums,YqZ,e1,e2]
theorem YrD{cs:List Value}{x:YaE}(h:Ybr cs x):∀y∈cs,y.oneCell'=true:=by
 obtain⟨-,rfl⟩:=h;intro y hy;simp at hy;rcases hy with rfl|rfl<;>rfl
theorem Yrp{c:UInt8}{k:Nat}:(YqZ c k).size≤maxLen:=(by decide:3≤maxLen)
theorem YrE(z0 z1 a0 a1 b0 b1:Value):Instr.fill (fun i=>some (i*2,2)) ((Array.range (2*2)).map ((Value.agg #[z0,z1]).cells[·%(Value.agg #[z0,z1]).cells.size]!)) [(0,.agg #[a0,a1]),(1,.agg #[b0,b1])]=some #[a0,a1,b0,b1]:=by kernel_rfl
theorem YrF(z0 z1 z2 z3 a0 a1 a2 a3 b0 b1 b2 b3 c0 c1 c2 c3:Value):Instr.fill (fun i=>some (i*4,4)) ((Array.range (3*4)).map ((Value.agg #[z0,z1,z2,z3]).cells[·%(Value.agg #[z0,z1,z2,z3]).cells.size]!)) [(0,.agg #[a0,a1,a2,a3]),(1,.agg #[b0,b1,b2,b3]),(2,.agg #[c0,c1,c2,c3])]=some #[a0,a1,a2,a3,b0,b1,b2,b3,c0,c1,c2,c3]:=by kernel_rfl
theorem YrG{P:Program}{ops:Array Oper}{rest:List Oper}{o:Oper}{a:Act}{w:World}{Q:Exit→Act→World→Prop}(hg:o.guard=none)(t e:TypeId)(x y:Operand)(ho:o.op=.buildSlice t 2 #[(0,x),(1,y)]){by_:Nat}{z0 z1 a0 a1 b0 b1:Value}
 (hu:P.underlying t=some (.slice e)) (hinf:(P.info? e).map (fun i=>(i.zero,i.size,i.bytes))=some (some (.agg #[z0,z1]),2,by_)) (hx:a.eval x=.agg #[a0,a1]) (hy:a.eval y=.agg #[b0,b1])
 (h:wpList P ops Q rest (a.put o.dst (.slice (some ⟨w.heap.size,0,none⟩) 2 2)) (w.alloc (.cells #[a0,a1,b0,b1] e))):wpList P ops Q (o::rest) a w:=by
 obtain⟨i,hi,hz,hsz,-⟩:=info_parts hinf;refine Go.wpList_buildSlice hg t e 2 #[(0,x),(1,y)] ho #[a0,a1,b0,b1] i _ hu hi hz (by rw[hsz];decide) (by rw[hsz];decide) ?_ h;rw[hsz];simp only[List.map_toArray,List.map_cons,List.map_nil,hx,hy];exact YrE z0 z1 a0 a1 b0 b1
theorem YrH{P:Program}{ops:Array Oper}{rest:List Oper}{o:Oper}{a:Act}{w:World}{Q:Exit→Act→World→Prop}(hg:o.guard=none)(t e:TypeId)(x y u:Operand)(ho:o.op=.buildSlice t 3 #[(0,x),(1,y),(2,u)]){by_:Nat}{z0 z1 z2 z3 a0 a1 a2 a3 b0 b1 b2 b3 c0 c1 c2 c3:Value}
 (hu:P.underlying t=some (.slice e)) (hinf:(P.info? e).map (fun i=>(i.zero,i.size,i.bytes))=some (some (.agg #[z0,z1,z2,z3]),4,by_)) (hx:a.eval x=.agg #[a0,a1,a2,a3]) (hy:a.eval y=.agg #[b0,b1,b2,b3]) (hv:a.eval u=.agg #[c0,c1,c2,c3])
 (h:wpList P ops Q rest (a.put o.dst (.slice (some ⟨w.heap.size,0,none⟩) 3 3)) (w.alloc (.cells #[a0,a1,a2,a3,b0,b1,b2,b3,c0,c1,c2,c3] e))):wpList P ops Q (o::rest) a w:=by
 obtain⟨i,hi,hz,hsz,-⟩:=info_parts hinf;refine Go.wpList_buildSlice hg t e 3 #[(0,x),(1,y),(2,u)] ho #[a0,a1,a2,a3,b0,b1,b2,b3,c0,c1,c2,c3] i _ hu hi hz (by rw[hsz];decide) (by rw[hsz];decide) ?_ h;rw[hsz];simp only[List.map_toArray,List.map_cons,List.map_nil,hx,hy,hv];exact YrF z0 z1 z2 z3 a0 a1 a2 a3 b0 b1 b2 b3 c0 c1 c2 c3
theorem YrI(s:ByteArray)(A:Option Addr)(n c:Nat)(b0 b1 b2 b3:Int):(Tryz.prog).built 41 [(0,.string s),(2,.slice A n c),(3,.agg #[.int .i64 b0,.int .i64 b1,.int .i64 b2,.int .i64 b3])]=some #[.string s,.slice none 0 0,.slice A n c,.int .i64 b0,.int .i64 b1,.int .i64 b2,.int .i64 b3]:=by kernel_rfl
theorem YrJ(b0 b1:Int):(Tryz.prog).built 39 [(0,.int .i64 b0),(1,.int .i64 b1)]=some #[.int .i64 b0,.int .i64 b1,.int .i64 0,.int .i64 0]:=by kernel_rfl
theorem YrK{ops:Array Oper}{rest:List Oper}{o:Oper}{a:Act}{w:World}{Q:Exit→Act→World→Prop}(hg:o.guard=none)(s:ByteArray)(x y:Operand)(ho:o.op=.build 41 #[(0,.const (.string s)),(2,x),(3,y)]){A:Option Addr}{n c:Nat}{b0 b1 b2 b3:Int}
 (hx:a.eval x=.slice A n c) (hy:a.eval y=.agg #[.int .i64 b0,.int .i64 b1,.int .i64 b2,.int .i64 b3])
 (h:wpList Tryz.prog ops Q rest (a.put o.dst (.agg #[.string s,.slice none 0 0,.slice A n c,.int .i64 b0,.int .i64 b1,.int .i64 b2,.int .i64 b3])) w):wpList Tryz.prog ops Q (o::rest) a w:=
 wpList_plain hg fun _ hK=>YqH 41 _ ho (by simp only[List.map_toArray,List.map_cons,List.map_nil,hx,hy];exact YrI s A n c b0 b1 b2 b3) (hK _ _ h)
theorem YrL{ops:Array Oper}{rest:List Oper}{o:Oper}{a:Act}{w:World}{Q:Exit→Act→World→Prop}(hg:o.guard=none)(b0:Int)(x:Operand)(ho:o.op=.build 39 #[(0,.const (.int .i64 b0)),(1,x)]){b1:Int}
 (hx:a.eval x=.int .i64 b1) (h:wpList Tryz.prog ops Q rest (a.put o.dst (.agg #[.int .i64 b0,.int .i64 b1,.int .i64 0,.int .i64 0])) w):wpList Tryz.prog ops Q (o::rest) a w:=
 wpList_plain hg fun _ hK=>YqH 39 _ ho (by simp only[List.map_toArray,List.map_cons,List.map_nil,hx];exact YrJ b0 b1) (hK _ _ h)
theorem YrM{w:World}{D:Nat→Prop}:DInts w D (.slice none 0 0) []:=⟨none,0,rfl,by unfold Len;simp,Nr _,fun i x h=>by simp at h⟩
theorem Yrq{w:World}{g:Nat}{a b:Int}(h:BoxAt w g #[.int .i64 a,.int .i64 b] 3):DInts w (NT [3] w) (.slice (some ⟨g,0,none⟩) 2 2) [a,b]:=by
 refine⟨_,_,rfl,by unfold Len;simp,Nr _,fun i x hx=>?_⟩;have hn:NT [3] w g:=⟨_,_,h,ZS⟩
 match i,hx with
 |0,hx=>
  cases hx
  exact⟨g,0,[.int .i64 a],rfl,hn,h.lt,rfl,fun j u hu=>by
   match j,hu with
   |0,hu=>cases hu;simpa using h.cell 0,rfl⟩
 |1,hx=>
  cases hx
  exact⟨g,0,[.int .i64 b],rfl,hn,h.lt,rfl,fun j u hu=>by
   match j,hu with
   |0,hu=>cases hu;simpa using h.cell 1,rfl⟩
def nOp(L:List PInst)(j:Nat)(o:Int):Nat:=((L.take j).filter fun y=>decide (y.op=o)).length
theorem Yrr{L:List PInst}{j:Nat}{o:Int}:nOp L j o≤j:=Nat.le_trans (List.length_filter_le _ _) (by rw[List.length_take];omega)
theorem Yrs{L:List PInst}{p:PInst→Bool}{j:Nat}{x:PInst}(h:L[j]?=some x):((L.take (j+1)).filter p).length=((L.take j).filter p).length+if p x then 1 else 0:=by
 rw[List.take_add_one,h,List.filter_append,List.length_append];cases hp:p x<;>simp[hp]
section
variable {L A B:List PInst} {v:Int} {b:PBlock} {k:Nat}
theorem YrN(h:b.insts=A++chk 0 v::B)(hA:∀y∈A,y.op=0)(hB:∀y∈B,y.op=0∨y.op=13)(_hl:(B.filter fun y=>decide (y.op=13)).length=k){j:Nat}(hj:j<b.insts.length) :
 ((b.inst j).op=0∧nOp b.insts (j+1) 13=nOp b.insts j 13∧nOp b.insts (j+1) 18=nOp b.insts j 18)∨
  ((b.inst j).op=13∧nOp b.insts (j+1) 13=nOp b.insts j 13+1∧nOp b.insts (j+1) 18=nOp b.insts j 18)∨
  ((b.inst j).op=18∧nOp b.insts (j+1) 13=0∧nOp b.insts (j+1) 18=nOp b.insts j 18+1∧nOp b.insts j 13=0∧b.inst j=chk 0 v):=by
 have hx:=PBlock.inst_get hj;have s1:=Yrs (p:=fun y=>decide (y.op=13)) hx;have s2:=Yrs (p:=fun y=>decide (y.op=18)) hx;change nOp b.insts (j+1) 13=nOp b.insts j 13+_ at s1;change nOp b.insts (j+1) 18=nOp b.insts j 18+_ at s2;generalize b.inst j=x at *;rw[s1,s2];rw[h]at hx hj
 by_cases h1:j<A.length
 · rw[List.getElem?_append_left h1]at hx
   have:=hA x (List.mem_of_getElem? hx);exact .inl ⟨this,by simp[this],by simp[this]⟩
 · rw[List.getElem?_append_right ZO]at hx
   by_cases h2:j=A.length
   · subst h2
     rw[Nat.sub_self]at hx;have hxc:chk 0 v=x:=by simpa using hx
     have ho:x.op=18:=by rw[← hxc];rfl
     have h0:nOp b.insts A.length 13=0:=by
      unfold nOp;rw[h,List.take_left' rfl,List.filter_eq_nil_iff.2 fun y hy=>by simp[hA y hy]];rfl
     exact .inr (.inr ⟨ho,by rw[h0];simp[ho],by simp[ho],h0,hxc.symm⟩)
   · obtain⟨d,hd⟩:∃d,j-A.length=d+1:=⟨j-A.length-1,ZO⟩
     rw[hd,List.getElem?_cons_succ]at hx;rcases hB x (List.mem_of_getElem? hx)with ho|ho
     · exact .inl ⟨ho,by simp[ho],by simp[ho]⟩
     · exact .inr (.inl ⟨ho,by simp[ho],by simp[ho]⟩)
theorem YrO(h:b.insts=A++chk 0 v::B)(hA:∀y∈A,y.op=0)(hB:∀y∈B,y.op=0∨y.op=13)(hl:(B.filter fun y=>decide (y.op=13)).length=k) :
 (b.insts.filter fun y=>decide (y.op=13)).length=k∧(b.insts.filter fun y=>decide (y.op=18)).length=1:=by
 have a1:(A.filter fun y=>decide (y.op=13))=[]:=List.filter_eq_nil_iff.2 fun y hy=>by simp[hA y hy]
 have a2:(A.filter fun y=>decide (y.op=18))=[]:=List.filter_eq_nil_iff.2 fun y hy=>by simp[hA y hy]
 have b2:(B.filter fun y=>decide (y.op=18))=[]:=List.filter_eq_nil_iff.2 fun y hy=>by rcases hB y hy with e|e<;>simp[e]
 have c1:(chk 0 v).op=18:=rfl;rw[h];refine⟨?_,?_⟩
 · rw[List.filter_append,a1,List.filter_cons,if_neg (by rw[c1];decide)]
   exact hl
 · rw[List.filter_append,a2,List.filter_cons,if_pos (by rw[c1];decide),b2]
   rfl
end
structure PlS (W:World) (A:Option Addr) (n:Nat) (ps:List Int):Prop where
 at_:∀i,i<n→∃b off,A=some ⟨b,off,none⟩∧b<W.heap.size∧W.cell? ⟨b,off+i,none⟩=some (.int .u8 (ith ps i))∧0≤ith ps i∧ith ps i<256
set_option maxHeartbeats 16000000 in
theorem YrP{W:World}{A:Option Addr}{n c:Nat}{ps:List Int}(hU:Uni W)(hp:PlS W A n ps) :
 Calls Tryz.prog 5 #[.slice A n c] W fun e w'=>e=.returned (.bool true)∧Below W.heap.size W w':=by
 have hlv:=fun(w:World) (h:Below W.heap.size W w)=>Yi1 hU h
 obtain⟨w,rfl⟩:∃w:World,w=W:=⟨_,rfl⟩;have hb0:=Br w.heap.size w
 by_cases h0:n=0
 · as_aux_lemma=>
   subst h0;clear hp;go_enter Tryz.func5,Tryz.ntmps5;go_wp2_with fail;refine(hlv _ hb0).mono ?_;rintro e w1 ⟨rfl,hb1⟩;have hB1:=hb0.trans (hb1.mono hb0.size);go_wp2_with fail;refine(hlv _ hB1).mono ?_;rintro e w2 ⟨rfl,hb2⟩;have hB2:=hB1.trans (hb2.mono hB1.size);go_wp2;go_ret;exact⟨rfl,hB2⟩
 have hz0:((n:Int)==0)=false:=by rw[beq_eq_false_iff_ne];omega
 have hz1:¬(n:Int)=0:=by omega
 by_cases h40:40<n
 · as_aux_lemma=>
   have hd:decide ((40:Int)<(n:Int))=true:=decide_eq_true ZO;clear hp h0;go_enter Tryz.func5,Tryz.ntmps5;go_wp2_with fail;refine(hlv _ hb0).mono ?_;rintro e w1 ⟨rfl,hb1⟩;have hB1:=hb0.trans (hb1.mono hb0.size);go_wp2_with fail;refine(hlv _ hB1).mono ?_;rintro e w2 ⟨rfl,hb2⟩;have hB2:=hB1.trans (hb2.mono hB1.size);go_wp2;go_ret;exact⟨rfl,hB2⟩
 as_aux_lemma=>
 have hd:decide ((40:Int)<(n:Int))=false:=decide_eq_false ZO;have HP:=Lh hp;have HU:=Lh hU;have hnp:0<n:=by omega
 have hn40:n≤40:=by omega
 clear hp hU h0;go_enter Tryz.func5,Tryz.ntmps5;go_wp2_with fail;refine(hlv _ hb0).mono ?_;rintro e w1 ⟨rfl,hb1⟩;have hB1:=hb0.trans (hb1.mono hb0.size);obtain⟨wA,hwA⟩:∃wA:World,wA=((w1.alloc (.cells #[.string ⟨#[120,115]⟩,.int .i64 2] 50)).alloc (.cells #[.int .i64 0] 3)).alloc (.cells #[.slice (some ⟨w1.heap.size,0,none⟩) 1 1,.slice (some ⟨w1.heap.size+1,0,none⟩) 1 1,.slice none 0 0] 26):=⟨_,rfl⟩;have hbA:Below w1.heap.size w1 wA:=by rw[hwA];exact BL
 have x0:BoxAt wA w1.heap.size #[.string ⟨#[120,115]⟩,.int .i64 2] 50:=by rw[hwA];exact((BoxAt.new _ _ _).alloc _).alloc _
 have x1:BoxAt wA (w1.heap.size+1) #[.int .i64 0] 3:=by
  rw[hwA];have:=(BoxAt.new (w1.alloc (.cells #[.string ⟨#[120,115]⟩,.int .i64 2] 50)) #[.int .i64 0] 3).alloc (.cells #[.slice (some ⟨w1.heap.size,0,none⟩) 1 1,.slice (some ⟨w1.heap.size+1,0,none⟩) 1 1,.slice none 0 0] 26);simpa using this
 have x2:BoxAt wA (w1.heap.size+2) #[.slice (some ⟨w1.heap.size,0,none⟩) 1 1,.slice (some ⟨w1.heap.size+1,0,none⟩) 1 1,.slice none 0 0] 26:=by
  rw[hwA];have:=BoxAt.new ((w1.alloc (.cells #[.string ⟨#[120,115]⟩,.int .i64 2] 50)).alloc (.cells #[.int .i64 0] 3)) #[.slice (some ⟨w1.heap.size,0,none⟩) 1 1,.slice (some ⟨w1.heap.size+1,0,none⟩) 1 1,.slice none 0 0] 26;simpa using this
 have o0:=Yrn x0 rfl w1.heap.size (Nr _);have o1:=Yrn x1 rfl w1.heap.size ZO
 go_upto_region 4 with fail
 go_loud (rw[← hwA])
 clear hwA;have HX0:=Lh x0;have HX1:=Lh x1;have HX2:=Lh x2;have HO0:=Lh o0;have HO1:=Lh o1;have HBA:=Lh hbA;have HB1:=Lh hB1;clear x0 x1 x2 o0 o1 hbA hB1 hb0 hb1 hlv;go_wp2_with fail
 go_loopw[4,5,35] (fun s4 s5 s wr=>∃(k:Nat) (lv vv:Value),s4=lv∧s5=.int .i64 (rwM ps k)∧s=.int .i64 k∧k≤n∧BoxAt wr (w1.heap.size+2) #[vv,.slice (some ⟨w1.heap.size+1,0,none⟩) 1 1,.slice none 0 0] 26∧RRow wr w1.heap.size 50 2 Ybr vv (rwV k)∧RRow wr (w1.heap.size+3) 44 4 (CIn wr) lv (rwI ps k)∧wr.ownsRow w1.heap.size 3 1 (.slice (some ⟨w1.heap.size+1,0,none⟩) 1 1) 1 [.int .i64 0]∧Below w1.heap.size w1 wr) (fun _ _ s _=>n-(intOf s).toNat)
 case atStart=>exact⟨0,_,_,rfl,rfl,rfl,Nz _,HX2.out,⟨[[.string ⟨#[120,115]⟩,.int .i64 2]],rfl,fun i cs x h1 h2=>by
  match i,h1,h2 with
  |0,h1,h2=>cases h1;cases h2;exact⟨rfl,ZD,rfl⟩,HO0.out⟩,RRow.nil,HO1.out,HBA.out⟩
 case round=>as_aux_lemma=>
  clear HX0 HX1 HX2 HO0 HO1 HBA;obtain⟨k,lv,vv,rfl,rfl,rfl,hk,hX,hV,hI,hO,hB⟩:=hrel
  by_cases hkl:k<n
  · as_aux_lemma=>
    obtain⟨Av,cv,rfl⟩:=hV.form;obtain⟨Ai,ci,rfl⟩:=hI.form;have hVl:(rwV k).length=2*k+1:=Yq3 k;have hIl:(rwI ps k).length=3*k:=Yq4 k;obtain⟨pb,po,rfl,hpb,hpc,hp0,hp9⟩:=HP.out.at_ k hkl;have HB:=Lh hB;have HV:=Lh hV;have HI:=Lh hI;have HO:=Lh hO;have HX:=Lh hX;have q0:=hX.cell 0;have ql:=hX.lt;simp at q0;have hpc2:=((HB1.out.trans (hB.mono HB1.out.size)).cell (p:=⟨pb,po+k,none⟩) hpb).trans hpc;have hpl:pb<wr.heap.size:=Nt hpb (HB1.out.trans (hB.mono HB1.out.size)).size;clear hX hV hI hO hB hpc;have xB:BoxAt (wr.alloc (.cells #[.int .u8 (48+(k:Int) / 10),.int .u8 (48+(k:Int)%10)] 5)) wr.heap.size #[.int .u8 (48+(k:Int) / 10),.int .u8 (48+(k:Int)%10)] 5:=BoxAt.new _ _ _
    have hcv:=run_convert_bytes_arg (P:=Tryz.prog) (wr.alloc (.cells #[.int .u8 (48+(k:Int) / 10),.int .u8 (48+(k:Int)%10)] 5)) 47 5 Tryz.underlying47 Tryz.underlying5 wr.heap.size 0 2 2 [48+(k:Int) / 10,48+(k:Int)%10] rfl (fun i hi=>by
     rw[Nat.zero_add,xB.cell i]
     match i,hi with
     |0,_=>rfl
     |1,_=>rfl) 9 Tryz.underlying9
    obtain⟨nm,hnm⟩:∃nm,strOfNums [48+(k:Int) / 10,48+(k:Int)%10]=nm:=⟨_,rfl⟩;rw[hnm]at hcv;have hns:nm.size=2:=by rw[← hnm];rfl
    have hn1:=Yro 105 k;have hn2:=Yro 118 k;rw[hnm]at hn1 hn2;clear hnm xB;obtain⟨wC,hwC⟩:∃wC:World,wC=wr.alloc (.cells #[.int .u8 (48+(k:Int) / 10),.int .u8 (48+(k:Int)%10)] 5):=⟨_,rfl⟩;have hbC:Below wr.heap.size wr wC:=by rw[hwC];exact(Br _ _).alloc (Nr _) _
    go_upto_region 11 with fail
    go_loud (rw[← hwC])
    have q0:=(hbC.cell (p:=⟨w1.heap.size+2,0,none⟩) ql).trans q0;have ql:w1.heap.size+2<wC.heap.size:=Nt ql hbC.size;clear hwC hcv;obtain⟨wB,hwB⟩:∃wB:World,wB=wC.alloc (.cells #[.string (YqZ 105 k),.int .i64 0,.string (YqZ 118 k),.int .i64 0] 50):=⟨_,rfl⟩;have hbB:Below wr.heap.size wr wB:=by rw[hwB];exact hbC.alloc hbC.size _
    have yB:BoxAt wB wC.heap.size #[.string (YqZ 105 k),.int .i64 0,.string (YqZ 118 k),.int .i64 0] 50:=by rw[hwB];exact BoxAt.new _ _ _
    have hsB:=hbB.size;have hlB:=HX.out.lt;have R1:=HV.out.kt (KT.of_below hbB (ts:=[50])) ZS fun _ _ h=>h
    have D1:DRow wB (fun _=>True) 2 Ybr (.slice (some ⟨wC.heap.size,0,none⟩) 2 2) [⟨YqZ 105 k,0⟩,⟨YqZ 118 k,0⟩]:=Yrm (C:=Ybr) (xs:=[⟨YqZ 105 k,0⟩,⟨YqZ 118 k,0⟩]) (sz:=2) yB [[.string (YqZ 105 k),.int .i64 0],[.string (YqZ 118 k),.int .i64 0]] rfl rfl ZS ZS fun i c x h1 h2=>by
     match i,h1,h2 with
     |0,h1,h2=>cases h1;cases h2;exact⟨Yrp,rfl⟩
     |1,h1,h2=>cases h1;cases h2;exact⟨Yrp,rfl⟩
    obtain⟨Az,cz,wz,hrz,hRz,hgz,-⟩:=YqD (P:=Tryz.prog) (base:=w1.heap.size) (t:=22) (ty:=22) 2 24 Tryz.underlying22 Tryz.info50 rfl ZD ZD R1 D1 (fun _ _ h=>YrD h) (by rw[hVl];simp;omega) ZO;simp only[List.length_cons,List.length_nil,Nat.zero_add]at hrz hRz;rw[hVl]at hrz;obtain⟨cells,hO1⟩:=R1.own;have hne:(Value.slice Av (rwV k).length cv).ownBlock≠some (w1.heap.size+2):=Yck hO1 (HX.out.below hbB hlB) ZD;have hKz:KT [3,44] wB wz:=KT.refl.grown hO1 ZS hgz;have Cz:=(HX.out.below hbB hlB).grown hgz hne;have hKB:KT [3,44] wr wB:=KT.of_below hbB;have Bz:=(HB.out.trans (hbB.mono HB.out.size)).grown hgz (by have:=HB.out.size;omega) (fun b hb=>(R1.lt hb).1);rw[hwB]at hrz;have tz0:=Cz.cell 0;have tzf:=Cz.frozen 0;have tzl:=Cz.lt;simp at tz0;have HKZ:=Lh (hKB.trans hKz);have HCZ:=Lh Cz;have HBZ:=Lh Bz;have HRZ:=Lh hRz;have HSZ:=Lh (Nat.le_trans hsB hgz.size);clear hbB yB R1 D1 hgz hO1 hne hKz hKB Cz Bz hRz hsB HV HX HB hwB
    go_upto_region 12 with(first|(refine YrG rfl 22 50 _ _ rfl Tryz.underlying22 Tryz.info50 rfl rfl ?_)|(at_builtin;go_loud (refine Yia rfl _ _ 22 rfl rfl rfl hrz ?_)))
    obtain⟨wS,hwS⟩:∃wS:World,wS=wz.setCell ⟨w1.heap.size+2,0,none⟩ (.slice Az (2*k+1+2) cz):=⟨_,rfl⟩
    go_loud (rw[← hwS])
    have hKS:KT [3,44] wz wS:=by rw[hwS];exact KT.refl.setCell HCZ.out ZS _
    have hKV:KT [50] wz wS:=by rw[hwS];exact KT.refl.setCell HCZ.out ZS _
    have hKr:=HKZ.out.trans hKS;have XS:BoxAt wS (w1.heap.size+2) #[.slice Az (2*k+1+2) cz,.slice (some ⟨w1.heap.size+1,0,none⟩) 1 1,.slice none 0 0] 26:=by rw[hwS];simpa using HCZ.out.set 0 (.slice Az (2*k+1+2) cz)
    have VS:=HRZ.out.kt hKV ZS fun _ _ h=>h
    rw[hVl]at VS;have IS:=HI.out.kt hKr ZS fun _ _ h=>CIn.kt hKr ZS h
    have OS:=YaT HO.out hKr ZS;have BS:Below w1.heap.size w1 wS:=by rw[hwS];exact HBZ.out.setCell ZS _
    have hsS:wr.heap.size≤wS.heap.size:=hKr.size;have HXS:=Lh XS;have HVS:=Lh VS;have HIS:=Lh IS;have HOS:=Lh OS;have HBS:=Lh BS;clear hwS hKS hKV hKr XS VS IS OS BS HKZ HCZ HBZ HRZ HSZ HI HO tz0 tzf tzl hrz hns hn1 hn2;obtain⟨wI,hwI⟩:∃wI:World,wI=((wS.alloc (.cells #[.int .i64 0,.int .i64 (2*(k:Int)+1)] 3)).alloc (.cells #[.int .i64 0,.int .i64 (2*(k:Int)+1)] 3)).alloc (.cells #[.int .i64 0,.int .i64 (2*(k:Int)+1),.slice none 0 0,.int .i64 (ith ps k),.int .i64 18,.int .i64 (-1),.slice (some ⟨wS.heap.size,0,none⟩) 2 2,.int .i64 0,.int .i64 13,.int .i64 (2*(k:Int)+1+1),.slice (some ⟨wS.heap.size+1,0,none⟩) 2 2,.int .i64 0] 44):=⟨_,rfl⟩;have hbI:Below wS.heap.size wS wI:=by rw[hwI];exact(((Br _ _).alloc (Nr _) _).alloc ZS _).alloc ZX _
    have i0:BoxAt wI wS.heap.size #[.int .i64 0,.int .i64 (2*(k:Int)+1)] 3:=by rw[hwI];exact((BoxAt.new _ _ _).alloc _).alloc _
    have i1:BoxAt wI (wS.heap.size+1) #[.int .i64 0,.int .i64 (2*(k:Int)+1)] 3:=by
     rw[hwI];have:=(BoxAt.new (wS.alloc (.cells #[.int .i64 0,.int .i64 (2*(k:Int)+1)] 3)) #[.int .i64 0,.int .i64 (2*(k:Int)+1)] 3).alloc (.cells #[.int .i64 0,.int .i64 (2*(k:Int)+1),.slice none 0 0,.int .i64 (ith ps k),.int .i64 18,.int .i64 (-1),.slice (some ⟨wS.heap.size,0,none⟩) 2 2,.int .i64 0,.int .i64 13,.int .i64 (2*(k:Int)+1+1),.slice (some ⟨wS.heap.size+1,0,none⟩) 2 2,.int .i64 0] 44);simpa using this
    have i2:BoxAt wI (wS.heap.size+2) #[.int .i64 0,.int .i64 (2*(k:Int)+1),.slice none 0 0,.int .i64 (ith ps k),.int .i64 18,.int .i64 (-1),.slice (some ⟨wS.heap.size,0,none⟩) 2 2,.int .i64 0,.int .i64 13,.int .i64 (2*(k:Int)+1+1),.slice (some ⟨wS.heap.size+1,0,none⟩) 2 2,.int .i64 0] 44:=by
     rw[hwI];have:=BoxAt.new ((wS.alloc (.cells #[.int .i64 0,.int .i64 (2*(k:Int)+1)] 3)).alloc (.cells #[.int .i64 0,.int .i64 (2*(k:Int)+1)] 3)) #[.int .i64 0,.int .i64 (2*(k:Int)+1),.slice none 0 0,.int .i64 (ith ps k),.int .i64 18,.int .i64 (-1),.slice (some ⟨wS.heap.size,0,none⟩) 2 2,.int .i64 0,.int .i64 13,.int .i64 (2*(k:Int)+1+1),.slice (some ⟨wS.heap.size+1,0,none⟩) 2 2,.int .i64 0] 44;simpa using this
    have hsI:=hbI.size;have hlI:=HXS.out.lt;have hKI:KT [3,44] wS wI:=KT.of_below hbI;have R1:=HIS.out.kt hKI ZS fun _ _ h=>CIn.kt hKI ZS h
    have ez1:((2*k+1:Nat):Int)=2*(k:Int)+1:=by omega
    have ez2:((2*k+2:Nat):Int)=2*(k:Int)+1+1:=by omega
    have D1:DRow wI (fun _=>True) 4 (CIn wI) (.slice (some ⟨wS.heap.size+2,0,none⟩) 3 3) (rwT k (ith ps k)):=Yrm (C:=CIn wI) (xs:=rwT k (ith ps k)) (sz:=4) i2 [[.int .i64 0,.int .i64 (2*(k:Int)+1),.slice none 0 0,.int .i64 (ith ps k)],[.int .i64 18,.int .i64 (-1),.slice (some ⟨wS.heap.size,0,none⟩) 2 2,.int .i64 0],[.int .i64 13,.int .i64 (2*(k:Int)+1+1),.slice (some ⟨wS.heap.size+1,0,none⟩) 2 2,.int .i64 0]] rfl rfl ZS (show 3≤1024 from ZO) fun i c x h1 h2=>by
     match i,h1,h2 with
     |0,h1,h2=>cases h1;cases h2;exact⟨.slice none 0 0,by rw[ez1],YrM⟩
     |1,h1,h2=>cases h1;cases h2;exact⟨.slice (some ⟨wS.heap.size,0,none⟩) 2 2,rfl,by have:=Yrq i0;rw[← ez1]at this;exact this⟩
     |2,h1,h2=>cases h1;cases h2;exact⟨.slice (some ⟨wS.heap.size+1,0,none⟩) 2 2,by rw[ez2],by have:=Yrq i1;rw[← ez1]at this;exact this⟩
    obtain⟨Ay,cy,wy,hry,hRy,hgy,-⟩:=YqD (P:=Tryz.prog) (base:=w1.heap.size+3) (t:=35) (ty:=35) 4 48 Tryz.underlying35 Tryz.info44 rfl ZD ZD R1 D1 (fun _ _ h=>YeA h) (by rw[hIl];simp[rwT];omega) ZO;have e3:(rwT k (ith ps k)).length=3:=rfl;simp only[e3,hIl]at hry hRy;obtain⟨cells,hO1⟩:=R1.own;have hne:(Value.slice Ai (rwI ps k).length ci).ownBlock≠some (w1.heap.size+2):=Yck hO1 (HXS.out.below hbI hlI) ZD;have hKy:KT [3,50] wI wy:=KT.refl.grown hO1 ZS hgy;have hKv:KT [3,50] wS wy:=(KT.of_below hbI).trans hKy;have Cy:=(HXS.out.below hbI hlI).grown hgy hne;have Vy:=HVS.out.kt hKv ZS fun _ _ h=>h
    have Oy:=YaT HOS.out hKv ZS;have By:=(HBS.out.trans (hbI.mono HBS.out.size)).grown hgy (by have:=HBS.out.size;omega) (fun b hb=>by have:=(R1.lt hb).1;omega);have Iy:=hRy.imp (C':=CIn wy) fun _ _ h=>CIn.kt hKy ZS h
    rw[hwI]at hry;have HXY:=Lh Cy;have HVY:=Lh Vy;have HOY:=Lh Oy;have HBY:=Lh By;have HIY:=Lh Iy;clear hwI hbI i0 i1 i2 hKI R1 D1 hRy hgy hO1 hne hKy hKv Cy Vy Oy By Iy HXS HVS HOS HBS HIS ez1 ez2 e3 hsI;have hsz9:((wS.alloc (.cells #[.int .i64 0,.int .i64 (2*(k:Int)+1)] 3)).alloc (.cells #[.int .i64 0,.int .i64 (2*(k:Int)+1)] 3)).heap.size=wS.heap.size+2:=by simp
    go_upto_region 13 with(first|(refine YrH rfl 35 44 _ _ _ rfl Tryz.underlying35 Tryz.info44 rfl rfl rfl ?_;rw[hsz9])|(at_builtin;go_loud (refine Yia rfl _ _ 35 rfl rfl rfl hry ?_)))
    clear hsz9;have HVZ:=Lh (show RRow wy w1.heap.size 50 2 Ybr (.slice Az (2*k+1+2) cz) (rwV (k+1))from HVY.out);have HIZ:=Lh (show RRow wy (w1.heap.size+3) 44 4 (CIn wy) (.slice Ay (3*k+3) cy) (rwI ps (k+1))from HIY.out);clear hry HVY HIY q0 ql hIl hVl;obtain⟨mx,hmx⟩:∃mx,mx=rwM ps k:=⟨_,rfl⟩;obtain⟨pk,hpk⟩:∃pk,pk=ith ps k:=⟨_,rfl⟩;have hpk0:0≤pk:=by rw[hpk];exact hp0
    have hpk9:pk<256:=by rw[hpk];exact hp9
    have HMX:=Lh hmx;have HPK:=Lh hpk;rw[← hmx,← hpk];clear hmx hpk hp0 hp9 hpc2
    by_cases hm:mx<pk
    · as_aux_lemma=>
      have hdm:decide (mx<pk)=true:=decide_eq_true hm;have HM:=Lh (show rwM ps (k+1)=pk by rw[rwM,← HMX.out,← HPK.out,if_pos hm]);clear hm;go_wp2_with fail;go_roundw
      case rel=>exact⟨k+1,.slice Ay (3*k+3) cy,.slice Az (2*k+1+2) cz,rfl,by rw[HM.out],ZN,hkl,HXY.out,HVZ.out,HIZ.out,HOY.out,HBY.out⟩
      case measure=>simp[intOf];omega
    · as_aux_lemma=>
      have hdm:decide (mx<pk)=false:=decide_eq_false hm;have HM:=Lh (show rwM ps (k+1)=mx by rw[rwM,← HMX.out,← HPK.out,if_neg hm]);clear hm;go_wp2_with fail;go_roundw
      case rel=>exact⟨k+1,.slice Ay (3*k+3) cy,.slice Az (2*k+1+2) cz,rfl,by rw[HM.out],ZN,hkl,HXY.out,HVZ.out,HIZ.out,HOY.out,HBY.out⟩
      case measure=>simp[intOf];omega
  · as_aux_lemma=>
    obtain rfl:k=n:=by omega
    obtain⟨Av,cv,rfl⟩:=hV.form;obtain⟨Ai,ci,rfl⟩:=hI.form;have hVl:(rwV k).length=2*k+1:=Yq3 k;have hIl:(rwI ps k).length=3*k:=Yq4 k;have q0:=hX.cell 0;have q2:=hX.cell 2;have qf:=hX.frozen 2;have ql:=hX.lt;simp at q0 q2;have HB:=Lh hB;have HV:=Lh hV;have HI:=Lh hI;have HO:=Lh hO;have HX:=Lh hX;clear hX hV hI hO hB
    go_upto_region 17 with(first|(refine YrL rfl _ _ rfl rfl ?_)|(refine YrK rfl _ _ _ rfl rfl rfl ?_)|(refine Yh3 rfl _ _ _ rfl Tryz.underlying24 Tryz.info41 rfl ?_))
    obtain⟨wE,hwE⟩:∃wE:World,wE=(wr.setCell ⟨w1.heap.size+1+1,2,none⟩ (.slice (some ⟨wr.heap.size,0,none⟩) 1 1)).alloc (.cells #[.string ⟨#[97]⟩,.slice none 0 0,.slice Ai (3*k) ci,.int .i64 2,.int .i64 (2*(k:Int)),.int .i64 0,.int .i64 0] 41):=⟨_,rfl⟩
    go_loud (rw[← hwE])
    have hKE:KT [3,44,50] wr wE:=by rw[hwE];exact(KT.refl.setCell HX.out ZS _).alloc _
    have hsE:wE.heap.size=wr.heap.size+1:=by rw[hwE];simp
    have xE:BoxAt wE (w1.heap.size+2) #[.slice Av (2*k+1) cv,.slice (some ⟨w1.heap.size+1,0,none⟩) 1 1,.slice (some ⟨wr.heap.size,0,none⟩) 1 1] 26:=by
     have h:=(HX.out.set 2 (.slice (some ⟨wr.heap.size,0,none⟩) 1 1)).alloc (.cells #[.string ⟨#[97]⟩,.slice none 0 0,.slice Ai (3*k) ci,.int .i64 2,.int .i64 (2*(k:Int)),.int .i64 0,.int .i64 0] 41);rw[hwE,← hVl];simpa using h
    have yE:BoxAt wE wr.heap.size #[.string ⟨#[97]⟩,.slice none 0 0,.slice Ai (3*k) ci,.int .i64 2,.int .i64 (2*(k:Int)),.int .i64 0,.int .i64 0] 41:=by
     rw[hwE];have h:=BoxAt.new (wr.setCell ⟨w1.heap.size+1+1,2,none⟩ (.slice (some ⟨wr.heap.size,0,none⟩) 1 1)) #[.string ⟨#[97]⟩,.slice none 0 0,.slice Ai (3*k) ci,.int .i64 2,.int .i64 (2*(k:Int)),.int .i64 0,.int .i64 0] 41;simpa using h
    have bE:Below w1.heap.size w1 wE:=by rw[hwE];exact(HB.out.setCell ZX _).alloc (by have:=HB.out.size;simp;omega) _
    have VE:=HV.out.kt hKE ZS fun _ _ h=>h
    have IE:=HI.out.kt hKE ZS fun _ _ h=>CIn.kt hKE ZS h
    have OE:=YaT HO.out hKE ZS;have hn100:(rwV k).length≤1048576:=by omega
    have hi100:(rwI ps k).length≤1048576:=by omega
    have hF:FnV wE wE.heap.size (.agg #[.slice Av (rwV k).length cv,.slice (some ⟨w1.heap.size+1,0,none⟩) 1 1,.slice (some ⟨wr.heap.size,0,none⟩) 1 1]) (rwF ps k):=by
     refine⟨_,_,_,rfl,DVars.rd (D:=fun _=>True) (VE.done hn100 (fun _ _ _=>trivial)) (fun _ h _=>h),DInts.rd (D:=fun _=>True) (DInts.of_own (n:=1) (xs:=[0]) OE ZD (fun _ _ _=>trivial)) (fun _ h _=>h),_,_,rfl,by simp[Len,rwF],Nr _,fun i x hx=>?_⟩
     match i,hx with
     |0,hx=>
      cases hx;have e0:=yE.cell 0;have e1:=yE.cell 1;have e2:=yE.cell 2;have e3:=yE.cell 3;have e4:=yE.cell 4;have e5:=yE.cell 5;have e6:=yE.cell 6;have hk2:((2*k:Nat):Int)=2*(k:Int):=by omega
      refine⟨wr.heap.size,0,rfl,ZO,(by decide:1≤maxLen),e0,⟨_,e1,Yb8⟩,⟨_,by rw[← hIl]at e2;exact e2,Ym1 IE hi100⟩,e3,by rw[← hk2]at e4;exact e4,e5,e6⟩
    have hfc:=Yq5 (ps:=ps) hnp hn40;have hUE:=HU.out.below (HB1.out.trans (bE.mono HB1.out.size))
    have hmg:=YeJ hUE hF (Br _ _) (Yde hfc.1) (YeF hfc.1) (YrB fun i hi=>by
     obtain⟨-,-,-,-,-,h⟩:=HP.out.at_ i hi
     exact h)
    rw[hVl]at hmg;unfold Ydi at hmg;rw[hfc.2.2.2]at hmg;obtain⟨A0,v,B0,hL0,hA0,hB0,hlen,hld,hfx⟩:=YrC (ps:=ps) (fun i hi=>(HP.out.at_ i hi).choose_spec.choose_spec.2.2.2.1) hnp hn40;have HGT:=Lh (YgE hfc.2.1 hfc.2.2.1);have HBE:=Lh (HB1.out.trans (bE.mono HB1.out.size));have xE2:BoxAt wE (w1.heap.size+1+1) #[.slice Av (2*k+1) cv,.slice (some ⟨w1.heap.size+1,0,none⟩) 1 1,.slice (some ⟨wr.heap.size,0,none⟩) 1 1] 26:=xE;have e0:=xE2.cell 0;have e1:=xE2.cell 1;have e2:=xE2.cell 2;have el:=xE2.lt;simp only[List.getElem?_toArray,List.getElem?_cons_zero,List.getElem?_cons_succ]at e0 e1 e2;have hcR:wE.rangeAt (w1.heap.size+1+1) 0 ([.slice Av (2*k+1) cv,.slice (some ⟨w1.heap.size+1,0,none⟩) 1 1,.slice (some ⟨wr.heap.size,0,none⟩) 1 1]:List Value):=by
     have:=World.rangeAt_of_block (w:=wE) (b:=w1.heap.size+1+1) xE2 0 3;simpa using this
    have huF:=Tryz.underlying26;have hinF:(Tryz.prog.info? 26).map (·.size)=some ([.slice Av (2*k+1) cv,.slice (some ⟨w1.heap.size+1,0,none⟩) 1 1,.slice (some ⟨wr.heap.size,0,none⟩) 1 1]:List Value).length:=by kernel_rfl
    clear xE2 hwE hKE hsE xE yE bE VE IE OE hF hfc hUE q0 q2 qf ql HX HV HI HO HB hVl hIl hn100 hi100;go_wp2_with(refine wpList_load_mid rfl 26 _ rfl (w1.heap.size+1+1) 0 rfl [.slice Av (2*k+1) cv,.slice (some ⟨w1.heap.size+1,0,none⟩) 1 1,.slice (some ⟨wr.heap.size,0,none⟩) 1 1] _ hcR huF rfl hinF ?_);refine hmg.mono ?_;rintro e w5 ⟨⟨h,-⟩|⟨-,gv,rfl,hG⟩,hb5⟩
    · cases h
    obtain⟨G,hGe⟩:∃G,G=mrgF (rwF ps k):=⟨_,rfl⟩;have hGb:G.blocks.length=1:=by rw[hGe];rfl
    have hGi:(G.blk 0).insts=A0++chk 0 v::B0:=by rw[hGe];exact hL0
    rw[← hGe]at hG HGT hfx;clear hGe hL0 e0 e1 e2 el hmg hcR huF hinF;obtain⟨D0,d0,D1,d1,D2,d2,rfl,m0,m1,m2,-,-,-,-,-,r2⟩:=id hG.open_;unfold Len at m0 m1 m2;obtain⟨bb,off,A3,c3,A4,c4,rfl,hbb,-,hy0,hy1,hy2,hy3,hy4,hy5,hy6,l3,l4,k3,k4,r3,r4⟩:=r2.blk (Br _ _) (show 0<G.blocks.length from ZO);have hNL:(G.blk 0).insts.length=2*k+1:=by rw[hGi,List.length_append,List.length_cons];omega
    have HPOS:=Lh (fun j (hj:j<(G.blk 0).insts.length)=>YrN hGi hA0 hB0 hld hj);have HEND:=Lh (YrO hGi hA0 hB0 hld);have HRF:=Lh (fun(w':World) (h:Below w5.heap.size w5 w') (x:PInst) (hx:OkI x) (A:Option Addr) (c:Nat) (D:Nat→Prop) (hd:DInts w' D (.slice A x.args.length c) x.args)=>Yi9 hG h HGT.out hx hd);have nv:=Yb5 HGT.out;have HOK:=Lh (YeI HGT.out ZO (show 0<G.blocks.length from ZO));have hgb1:((G.blocks.length:Int) !=1)=false:=by rw[hGb];rfl
    have hgb2:(0:Int)<(G.blocks.length:Int):=by omega
    have hgb3:0<G.blocks.length:=by omega
    have hnl1:(((G.blk 0).insts.length:Int) !=2*(k:Int)+1)=false:=by rw[bne_eq_false_iff_eq];omega
    have hnl9:(G.blk 0).insts.length≤81:=by omega
    have HR4:=Lh r4;have HFX:=Lh hfx;unfold Len at l3 l4;obtain⟨w6,hw6⟩:∃w6:World,w6=w5.alloc (.cells #[.slice D0 G.vars.length d0,.slice D1 G.params.length d1,.slice (some ⟨bb,off,none⟩) G.blocks.length d2] 26):=⟨_,rfl⟩;have hb6:Below w5.heap.size w5 w6:=by rw[hw6];exact YO _ _
    have hg6:BoxAt w6 w5.heap.size #[.slice D0 G.vars.length d0,.slice D1 G.params.length d1,.slice (some ⟨bb,off,none⟩) G.blocks.length d2] 26:=by rw[hw6];exact BoxAt.new _ _ _
    have HB5:=Lh (HBE.out.trans (hb5.mono HBE.out.size));simp only[Nat.zero_mul,Nat.add_zero]at hy2;have a2:=(hb6.cell (p:=⟨bb,off+2,none⟩) hbb).trans hy2;have al:bb<w6.heap.size:=Nt hbb hb6.size;have HG6:=Lh hg6;have HB6:=Lh hb6;clear hG hGb hGi hA0 hB0 hlen hld hfx hy0 hy1 hy2 hy3 hy4 hy5 hy6 r2 r3 r4 hb5 hb6 hNL
    go_upto_region 18 with fail
    go_loud (rw[← hw6])
    clear hw6;have g0:=hg6.cell 0;have g1:=hg6.cell 1;have g2:=hg6.cell 2;have gl:=hg6.lt;simp at g0 g1 g2;clear hg6;go_wp2_with fail;clear g0 g1 g2 gl a2 al hgb1 hgb2 hgb3 hnl1
    go_loopw[12,13,127] (fun s12 s13 s wr=>∃j:Nat,s12=.int .i64 (nOp (G.blk 0).insts j 13)∧s13=.int .i64 (nOp (G.blk 0).insts j 18)∧s=.int .i64 j∧j≤(G.blk 0).insts.length∧Below w6.heap.size w6 wr) (fun _ _ s _=>(G.blk 0).insts.length-(intOf s).toNat)
    case atStart=>exact⟨0,rfl,rfl,rfl,Nz _,Br _ _⟩
    case round=>as_aux_lemma=>
     obtain⟨j,rfl,rfl,rfl,hj,hb⟩:=hrel
     by_cases hjl:j<(G.blk 0).insts.length
     · as_aux_lemma=>
       have hVr:Below w5.heap.size w5 wr:=HB6.out.trans (hb.mono HB6.out.size);obtain⟨bi,oi,A5,c5,rfl,hbi,hp0,hp1,hp2,hp3,l5,k5,r5⟩:=HR4.out.inst hVr hjl;have HSX:=Lh (⟨_,_,rfl,l5,k5,r5⟩:SInts w5 w5.heap.size (.slice A5 ((G.blk 0).inst j).args.length c5) ((G.blk 0).inst j).args);have HXK:=Lh (HOK.out _ (Yar hjl));have HPJ:=Lh (HPOS.out j hjl);have hl1:=Yrr (L:=(G.blk 0).insts) (j:=j) (o:=13);have hl2:=Yrr (L:=(G.blk 0).insts) (j:=j) (o:=18);obtain⟨nl,hnl⟩:∃nl,nl=nOp (G.blk 0).insts j 13:=⟨_,rfl⟩;obtain⟨nc,hnc⟩:∃nc,nc=nOp (G.blk 0).insts j 18:=⟨_,rfl⟩;rw[← hnl,← hnc]at HPJ;rw[← hnl]at hl1;rw[← hnc]at hl2;rw[← hnl,← hnc];clear hnl hnc;obtain⟨x,hx⟩:∃x,x=(G.blk 0).inst j:=⟨_,rfl⟩;rw[← hx]at HSX HXK HPJ hp0 hp1 hp2 hp3 l5 k5 r5;unfold Len at l5;clear hx r5;obtain⟨wk,rfl⟩:∃wk:World,wk=wr:=⟨_,rfl⟩;obtain⟨wB,hwB⟩:∃wB:World,wB=wk.alloc (.cells #[.int .i64 x.op,.int .i64 x.dst,.slice A5 x.args.length c5,.int .i64 x.num] 44):=⟨_,rfl⟩;have hbB:Below wk.heap.size wk wB:=by rw[hwB];exact YO _ _
       have oB:BoxAt wB wk.heap.size #[.int .i64 x.op,.int .i64 x.dst,.slice A5 x.args.length c5,.int .i64 x.num] 44:=by rw[hwB];exact BoxAt.new _ _ _
       have HVB:=Lh (hVr.trans (hbB.mono hVr.size));have HBB:=Lh (hb.trans (hbB.mono hb.size));have hg:=HG6.out.below HBB.out HG6.out.lt;have g0:=hg.cell 0;have g1:=hg.cell 1;have g2:=hg.cell 2;have gl:=hg.lt;have x0:=oB.cell 0;have x1:=oB.cell 1;have x2:=oB.cell 2;have x3:=oB.cell 3;have xl:=oB.lt;simp at g0 g1 g2 x0 x1 x2 x3;clear hb hVr hbB oB hg
       go_upto_region 24 with fail
       go_loud (rw[← hwB])
       clear hwB hp0 hp1 hp2 hp3;rcases HPJ.out with⟨ho,h1,h2⟩|⟨ho,h1,h2⟩|⟨ho,h1,h2,h3,h4⟩
       · as_aux_lemma=>
         have e1:(x.op==13)=false:=by rw[beq_eq_false_iff_ne];omega
         have e2:(x.op==18)=false:=by rw[beq_eq_false_iff_ne];omega
         have H1:=Lh h1;have H2:=Lh h2;clear ho h1 h2 HPJ g0 g1 g2 gl x1 x2 x3;go_wp2_with fail;go_roundw
         case rel=>exact⟨j+1,by rw[H1.out],by rw[H2.out],ZN,hjl,HBB.out⟩
         case measure=>simp[intOf];omega
       · as_aux_lemma=>
         have e1:(x.op==13)=true:=by rw[beq_iff_eq];exact ho
         have H1:=Lh h1;have H2:=Lh h2;clear ho h1 h2 HPJ g0 g1 g2 gl x1 x2 x3;go_wp2_with fail;go_roundw
         case rel=>exact⟨j+1,by rw[H1.out];go_num,by rw[H2.out],ZN,hjl,HBB.out⟩
         case measure=>simp[intOf];omega
       · as_aux_lemma=>
         have e1:(x.op==13)=false:=by rw[beq_eq_false_iff_ne];omega
         have e2:(x.op==18)=true:=by rw[beq_iff_eq];exact ho
         have H1:=Lh h1;have H2:=Lh h2;have H4:=Lh h4;subst h3;have hcl:=HRF.out wB HVB.out x HXK.out A5 c5 _ (YeV HSX.out HVB.out);rw[show Yav G x=rwM ps k by rw[H4.out];exact HFX.out]at hcl;have hmm:(rwM ps k !=rwM ps k)=false:=by simp
         clear ho h1 h2 h4 HPJ;go_wp2_with fail;refine hcl.mono ?_;rintro e w9 ⟨rfl,hb9⟩;have HB9:=Lh (HBB.out.trans (hb9.mono HBB.out.size));clear hb9;go_wp2_with fail;go_roundw
         case rel=>exact⟨j+1,by rw[H1.out];rfl,by rw[H2.out];go_num,ZN,hjl,HB9.out⟩
         case measure=>simp[intOf];omega
     · as_aux_lemma=>
       obtain rfl:j=(G.blk 0).insts.length:=by omega
       have HB:=Lh (HB5.out.trans ((HB6.out.trans (hb.mono HB6.out.size)).mono HB5.out.size));obtain⟨h1,h2⟩:=HEND.out;have h1':nOp (G.blk 0).insts (G.blk 0).insts.length 13=k:=by unfold nOp;rw[List.take_length];exact h1
       have h2':nOp (G.blk 0).insts (G.blk 0).insts.length 18=1:=by unfold nOp;rw[List.take_length];exact h2
       rw[h1',h2'];have hkk:((k:Int)==(k:Int))=true:=by simp
       clear hb h1 h2 h1' h2';go_wp2_with fail;go_ret;exact⟨rfl,HB.out⟩
end Go.Proofs.YtjlclkcmfokobaaGreatDoor
