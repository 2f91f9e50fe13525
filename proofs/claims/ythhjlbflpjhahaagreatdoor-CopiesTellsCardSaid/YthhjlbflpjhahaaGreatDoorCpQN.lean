/- The plain law of copies: what each variable is in the end; whichever copy or idle phi comes first, it ends the same. -/
import Derived.Test.YthhjlbflpjhahaaGreatDoorMemTN
import Derived.Test.YthhjlbflpjhahaaGreatDoorNewN
import Derived.Test.YthhjlbflpjhahaaGreatDoorLeafQN
import Derived.Test.YthhjlbflpjhahaaGreatDoorZedN
import Derived.Deep.LoopGhost
import Derived.Test.YthhjlbflpjhahaaGreatDoorPredsN
namespace Go.Proofs.YthhjlbflpjhahaaGreatDoor
open Go.RowKit
set_option maxRecDepth 100000
def isCp(x:PInst):Bool:=decide (x.op=1)
structure EqR (F:PFunc) (E:Int→Int→Prop):Prop where
 refl:∀v,E v v
 symm:∀{u v},E u v→E v u
 trans:∀{u v w},E u v→E v w→E u w
 cp:∀b∈F.blocks,∀x∈b.insts,isCp x=true→E x.dst (ith x.args 0)
 ph:∀b∈F.blocks,∀p∈b.phis,∀z,(∀a∈p.args,E a p.dst∨E a z)→(∃a∈p.args,E a z)→E p.dst z
structure RkS (F:PFunc) (rk:Int→Nat):Prop where
 cp:∀b∈F.blocks,∀x∈b.insts,isCp x=true→rk (ith x.args 0)<rk x.dst
 ph:∀b∈F.blocks,∀p∈b.phis,∃a∈p.args,rk a<rk p.dst
def inV(F:PFunc)(v:Int):Prop:=0≤v∧v<F.vars.length
structure RgC (F:PFunc):Prop where
 cp:∀b∈F.blocks,∀x∈b.insts,isCp x=true→inV F x.dst∧inV F (ith x.args 0)
 one:∀b∈F.blocks,∀x∈b.insts,isCp x=true→x.args.length=1
 ph:∀b∈F.blocks,∀p∈b.phis,inV F p.dst∧∀a∈p.args,inV F a
def sbI(x y v:Int):Int:=if v=x then y else v
structure CpI (F:PFunc) (rk:Int→Nat) (m:Int→Int):Prop where
 rg:∀v,inV F v→inV F (m v)
 rk:∀v,m v=v∨rk (m v)<rk v
 idem:∀v,m (m v)=m v
 snd:∀E,EqR F E→∀v,E v (m v)
 dc:∀b∈F.blocks,∀x∈b.insts,isCp x=true→m x.dst≠x.dst→m x.dst=m (ith x.args 0)
 dp:∀b∈F.blocks,∀p∈b.phis,m p.dst≠p.dst→∀a∈p.args,m a=m p.dst
 made:∀v,m v≠v→∃b∈F.blocks,(∃x∈b.insts,isCp x=true∧x.dst=v)∨∃p∈b.phis,p.dst=v
section
variable {F:PFunc} {rk:Int→Nat} {m m':Int→Int} {x y v:Int}
theorem CpI.id_:CpI F rk (fun v=>v):=
 ⟨fun _ h=>h,fun _=>.inl rfl,fun _=>rfl,fun _ hE v=>hE.refl v,fun _ _ _ _ _ h=>absurd rfl h,fun _ _ _ _ h=>absurd rfl h,fun _ h=>absurd rfl h⟩
theorem CpI.put(h:CpI F rk m)(_hx:m x=x)(hy:m y=y)(hyr:inV F y)(hr:rk y<rk x)(hs:∀E,EqR F E→E x y)
 (hc:∀b∈F.blocks,∀i∈b.insts,isCp i=true→i.dst=x→m (ith i.args 0)=x∨m (ith i.args 0)=y)
 (hp:∀b∈F.blocks,∀p∈b.phis,p.dst=x→∀a∈p.args,m a=x∨m a=y)
 (hm:∃b∈F.blocks,(∃i∈b.insts,isCp i=true∧i.dst=x)∨∃p∈b.phis,p.dst=x):CpI F rk (fun v=>sbI x y (m v)):=by
 have hyx:y≠x:=fun e=>by rw[e]at hr;omega
 have s1:∀{v},m v=x→sbI x y (m v)=y:=fun e=>if_pos e
 have s2:∀{v},m v≠x→sbI x y (m v)=m v:=fun e=>if_neg e
 have hxy:∀{v},m v=x∨m v=y→sbI x y (m v)=y:=fun {v} e=>by
  rcases e with e|e
  · exact s1 e
  · rw[s2 (by rw[e];exact hyx),e]
 refine⟨fun v hv=>?_,fun v=>?_,fun v=>?_,fun E hE v=>?_,fun b hb i hi hcp hne=>?_,fun b hb p hpm hne a ha=>?_,fun v hne=>?_⟩
 · show inV F (sbI x y (m v))
   by_cases e:m v=x
   · rw[s1 e];exact hyr
   · rw[s2 e];exact h.rg v hv
 · show sbI x y (m v)=v∨rk (sbI x y (m v))<rk v
   by_cases e:m v=x
   · rw[s1 e]
     rcases h.rk v with h1|h1
     · rw[← h1,e];exact .inr hr
     · rw[e]at h1;exact .inr ZO
   · rw[s2 e];exact h.rk v
 · show sbI x y (m (sbI x y (m v)))=sbI x y (m v)
   by_cases e:m v=x
   · rw[s1 e,s2 (by rw[hy];exact hyx),hy]
   · rw[s2 e,h.idem,s2 e]
 · show E v (sbI x y (m v))
   by_cases e:m v=x
   · rw[s1 e]
     exact hE.trans (by rw[← e];exact h.snd E hE v) (hs E hE)
   · rw[s2 e];exact h.snd E hE v
 · show sbI x y (m i.dst)=sbI x y (m (ith i.args 0))
   have hne:sbI x y (m i.dst)≠i.dst:=hne
   by_cases e:m i.dst=i.dst
   · by_cases e2:i.dst=x
     · rw[s1 (by rw[e,e2]),hxy (hc b hb i hi hcp e2)]
     · rw[s2 (by rw[e];exact e2)]at hne
       exact absurd e hne
   · rw[h.dc b hb i hi hcp e]
 · show sbI x y (m a)=sbI x y (m p.dst)
   have hne:sbI x y (m p.dst)≠p.dst:=hne
   by_cases e:m p.dst=p.dst
   · by_cases e2:p.dst=x
     · rw[s1 (v:=p.dst) (by rw[e,e2]),hxy (hp b hb p hpm e2 a ha)]
     · rw[s2 (by rw[e];exact e2)]at hne
       exact absurd e hne
   · rw[h.dp b hb p hpm e a ha]
 · have hne:sbI x y (m v)≠v:=hne
   by_cases e:m v=v
   · by_cases e2:v=x
     · rw[e2];exact hm
     · rw[s2 (by rw[e];exact e2)]at hne
       exact absurd e hne
   · exact h.made v e
end
section
variable {F:PFunc} {rk:Int→Nat} {m m':Int→Int} {x y v:Int}
def YbD(m:Int→Int)(p:PPhi)(y:Int):Prop:=y≠p.dst∧(∀a∈p.args,m a=p.dst∨m a=y)∧∃a∈p.args,m a=y
theorem CpI.copy(h:CpI F rk m)(hR:RkS F rk)(hG:RgC F)(h1:∀b∈F.blocks,∀i∈b.insts,∀c∈F.blocks,∀j∈c.insts,isCp i=true→isCp j=true→i.dst=j.dst→i=j)
 (h2:∀b∈F.blocks,∀i∈b.insts,∀c∈F.blocks,∀p∈c.phis,isCp i=true→p.dst≠i.dst)
 {b:PBlock} (hb:b∈F.blocks) {i:PInst} (hi:i∈b.insts) (hcp:isCp i=true) (hx:m i.dst=i.dst):m (ith i.args 0)≠i.dst∧CpI F rk (fun v=>sbI i.dst (m (ith i.args 0)) (m v)):=by
 have hr:rk (m (ith i.args 0))<rk i.dst:=by
  have:=hR.cp b hb i hi hcp;rcases h.rk (ith i.args 0)with e|e
  · rw[e];exact this
  · exact ZO
 refine⟨fun e=>by rw[e]at hr;omega,h.put hx (h.idem _) (h.rg _ (hG.cp b hb i hi hcp).2) hr (fun E hE=>hE.trans (hE.cp b hb i hi hcp) (h.snd E hE _)) (fun c hc j hj hj2 e=>?_) (fun c hc p hp e=>absurd e (h2 b hb i hi c hc p hp hcp)) ⟨b,hb,.inl ⟨i,hi,hcp,rfl⟩⟩⟩;rw[h1 c hc j hj b hb i hi hj2 hcp e];exact .inr rfl
theorem CpI.phi(h:CpI F rk m)(hR:RkS F rk)(hG:RgC F)(h1:∀b∈F.blocks,∀p∈b.phis,∀c∈F.blocks,∀q∈c.phis,p.dst=q.dst→p=q)
 (h2:∀b∈F.blocks,∀i∈b.insts,∀c∈F.blocks,∀p∈c.phis,isCp i=true→p.dst≠i.dst)
 {b:PBlock} (hb:b∈F.blocks) {p:PPhi} (hp:p∈b.phis) (hx:m p.dst=p.dst) (hy:YbD m p y):CpI F rk (fun v=>sbI p.dst y (m v)):=by
 obtain⟨-,hall,a,ha,hay⟩:=hy;obtain⟨a0,ha0,hr0⟩:=hR.ph b hb p hp;have hr1:rk (m a0)<rk p.dst:=by
  rcases h.rk a0 with e|e
  · rw[e];exact hr0
  · exact ZO
 have hm0:m a0=y:=(hall a0 ha0).resolve_left fun e=>by rw[e]at hr1;omega
 rw[hm0]at hr1;refine h.put hx (by rw[← hay];exact h.idem a) (by rw[← hay];exact h.rg a ((hG.ph b hb p hp).2 a ha)) hr1 (fun E hE=>?_) (fun c hc i hi hi2 e=>absurd e.symm (h2 c hc i hi b hb p hp hi2)) (fun c hc q hq e=>?_) ⟨b,hb,.inr ⟨p,hp,rfl⟩⟩
 · refine hE.ph b hb p hp y (fun c hc=>?_) ⟨a,ha,by rw[← hay];exact h.snd E hE a⟩
   rcases hall c hc with e|e
   · exact .inl (by rw[← e];exact h.snd E hE c)
   · exact .inr (by rw[← e];exact h.snd E hE c)
 · rw[h1 c hc q hq b hb p hp e]
   exact hall
theorem CpI.closed(h:CpI F rk m)(hc:∀b∈F.blocks,∀x∈b.insts,isCp x=true→m x.dst≠x.dst)(hp:∀b∈F.blocks,∀p∈b.phis,m p.dst=p.dst→∀y,¬YbD m p y):EqR F (fun u v=>m u=m v):=by
 refine⟨fun _=>rfl,fun e=>e.symm,fun e f=>e.trans f,fun b hb x hx hcp=>h.dc b hb x hx hcp (hc b hb x hx hcp),fun b hb p hpm z hall hex=>?_⟩;obtain⟨a,ha,hz⟩:=hex
 by_cases e:m p.dst=p.dst
 · by_cases e2:m z=p.dst
   · rw[e,e2]
   · refine absurd ⟨e2,fun c hc=>?_,a,ha,hz⟩ (hp b hb p hpm e (m z))
     rcases hall c hc with e3|e3
     · exact .inl (by rw[e3,e])
     · exact .inr e3
 · rw[← h.dp b hb p hpm e a ha]
   exact hz
theorem YjC(h:CpI F rk m)(h':CpI F rk m')(hc:EqR F (fun u v=>m u=m v))(hc':EqR F (fun u v=>m' u=m' v)):m=m':=by
 funext v;have h1:m v=m (m' v):=h'.snd _ hc v;have h2:m' v=m' (m v):=h.snd _ hc' v;rcases h.rk (m' v)with e1|e1
 · rw[h1,e1]
 · rcases h'.rk (m v)with e2|e2
   · rw[h2,e2]
   · rw[← h1]at e1
     rw[← h2]at e2;omega
end
noncomputable def rkV (F:PFunc) (v:Int):Nat:=if(Yk F v).1<0 then 0 else YM F (Yk F v).1.toNat*(YbE F+3)+((Yk F v).2+2).toNat
section
variable {F:PFunc} {i j k m:Nat} {v p:Int}
theorem Ygz(hT:Yc F=true)(hA:∀k,k<F.blocks.length→k∈postO F)(hm:m≠0):∀(n j:Nat),YM F j≤n→j<F.blocks.length→YM F j≤YM F m→j≠m→Yad (fun x y=>x∈PR F y) m j:=by
 have fin:=YbG hT;intro n
 induction n with
 |zero=>
  intro j hn hj _ _;have:=(Ygd fin).2 (hA j hj);unfold YM at hn;omega
 |succ n ih=>
  intro j hn hj hle hne;rcases Yc8 fin (hA j hj)with h1|⟨x,hx,he,hl⟩
  · rw[h1]
    exact .start hm
  · have hxn:=fin.lt x hx
    have hl':YM F x<YM F j:=hl;exact .step (ih x ZO hxn ZO fun e=>by rw[e]at hl';omega) ((Ybu hT).2 ⟨hxn,he⟩) hne
theorem Yku(hT:Yc F=true)(hA:∀k,k<F.blocks.length→k∈postO F):∀(n j:Nat),YM F j≤n→j<F.blocks.length→j≠0→YM F 0<YM F j:=by
 have fin:=YbG hT;intro n
 induction n with
 |zero=>
  intro j hn hj _;have:=(Ygd fin).2 (hA j hj);unfold YM at hn;omega
 |succ n ih=>
  intro j hn hj h0;rcases Yc8 fin (hA j hj)with h1|⟨x,hx,he,hl⟩
  · exact absurd h1 h0
  · have hxn:=fin.lt x hx
    have hl':YM F x<YM F j:=hl
    by_cases e:x=0
    · rw[e]at hl'
      exact hl'
    · have:=ih x ZO hxn e
      omega
theorem YeO(hT:Yc F=true)(hA:∀k,k<F.blocks.length→k∈postO F)(hj:j<F.blocks.length)(ht:Y1 F m j)(hne:m≠j):YM F m<YM F j:=by
 by_cases h0:m=0
 · rw[h0]
   exact Yku hT hA _ j (Nr _) hj fun e=>hne (by rw[h0,e])
 · refine Classical.byContradiction fun hc=>?_
   rcases ht.2.2 with e|e
   · exact hne e
   · exact e (Ygz hT hA h0 _ j (Nr _) hj ZO fun e=>hne e.symm)
theorem YeP(hO:YL F=true)(hv:inV F v)(h:Yo F v i p):rkV F v=YM F i*(YbE F+3)+(p+2).toNat:=by
 unfold rkV;rw[YaT (Ybh hO hv.1 hv.2) h];simp only;rw[if_neg ZO,Int.toNat_natCast]
theorem YgA(hT:Yc F=true)(hA:∀k,k<F.blocks.length→k∈postO F)(hO:YL F=true)(hv:inV F v)(hi:i<F.blocks.length){at_:Int}(h0:-1≤at_)(h:Yl F (tabB F) v i at_=true):rkV F v<YM F i*(YbE F+3)+(at_+2).toNat:=by
 have hone:=Ybh hO hv.1 hv.2
 by_cases hex:∃m p,Yo F v m p
 · obtain⟨m,p,hk⟩:=hex
   rw[YeP hO hv hk];unfold Yl at h;rw[YaT hone hk]at h;unfold Yaz at h;simp only at h;rw[if_neg ZO]at h;have hp:-1≤p∧p<((F.blk m).insts.length:Int):=by
    rcases hk.2 with⟨rfl,-⟩|⟨k,h2,rfl,-⟩<;>omega
   by_cases e:m=i
   · subst e
     rw[if_pos rfl,decide_eq_true_eq]at h;omega
   · rw[if_neg ZO,Int.toNat_natCast,YdG]at h
     have h1:=YeO hT hA hi h e;have h2:=Yf9 hk.1;have h3:(YM F m+1)*(YbE F+3)≤YM F i*(YbE F+3):=Nat.mul_le_mul_right _ h1;rw[Nat.add_mul,Nat.one_mul]at h3;omega
 · have:rkV F v=0:=by
    unfold rkV;rw[YeD fun i a hk=>hex ⟨i,a,hk⟩];rfl
   rw[this];omega
theorem YaL{b:PBlock}(hb:b∈F.blocks):∃i,i<F.blocks.length∧F.blk i=b:=by
 obtain⟨i,hi,e⟩:=List.getElem_of_mem hb;exact⟨i,hi,by simp[PFunc.blk,List.getD,hi,e]⟩
theorem YbI{b:PBlock}{x:PInst}(hx:x∈b.insts):∃k,k<b.insts.length∧b.inst k=x:=by
 obtain⟨k,hk,e⟩:=List.getElem_of_mem hx;exact⟨k,hk,by simp[PBlock.inst,List.getD,hk,e]⟩
theorem YeQ{b:PBlock}{x:PPhi}(hx:x∈b.phis):∃k,k<b.phis.length∧b.phi k=x:=by
 obtain⟨k,hk,e⟩:=List.getElem_of_mem hx;exact⟨k,hk,by simp[PBlock.phi,List.getD,hk,e]⟩
theorem rgC(hT:Yc F=true):RgC F:=by
 refine⟨fun b hb x hx hc=>?_,fun b hb x hx hc=>?_,fun b hb p hp=>?_⟩
 · obtain⟨i,hi,rfl⟩:=YaL hb
   obtain⟨k,hk,rfl⟩:=YbI hx;have h1:=(Ycy hT hi hk).2;have hB:=(Ya0 (Yv hT) hi).2.1 _ hx;obtain⟨-,h2,h3⟩:=Yb0 hB;have ho:((F.blk i).inst k).op=1:=of_decide_eq_true hc;rw[ho]at h2 h3;have h4:=Y2 (h3 ZD);have h5:((F.blk i).inst k).args.length=1:=by rw[h2];decide
   exact⟨h4,h1 0 ZO⟩
 · obtain⟨i,hi,rfl⟩:=YaL hb
   obtain⟨-,h2,-⟩:=Yb0 ((Ya0 (Yv hT) hi).2.1 _ hx);have ho:x.op=1:=of_decide_eq_true hc;rw[h2,ho];decide
 · obtain⟨i,hi,rfl⟩:=YaL hb
   obtain⟨k,hk,rfl⟩:=YeQ hp;obtain⟨-,h2,h3⟩:=Yc5 hT hi hk;refine⟨h2,fun a ha=>?_⟩;obtain⟨j,hj,e⟩:=List.getElem_of_mem ha;have:=h3 j hj;simp only[ith,List.getD,hj,List.getElem?_eq_getElem,Option.getD_some,e]at this;exact this
theorem rks(hT:Yc F=true)(hJ:YU F=true)(hA:∀k,k<F.blocks.length→k∈postO F)(hO:YL F=true)(hB:∀i,i<F.blocks.length→Yu F (tabB F) i=true):RkS F (rkV F):=by
 have hG:=rgC hT;have fin:=YbG hT;refine⟨fun b hb x hx hc=>?_,fun b hb p hp=>?_⟩
 · obtain⟨hd,ha⟩:=hG.cp b hb x hx hc
   obtain⟨i,hi,rfl⟩:=YaL hb;obtain⟨k,hk,rfl⟩:=YbI hx;have h1:=hB i hi;unfold Yu at h1;simp only[Bool.and_eq_true]at h1;have h2:=List.all_eq_true.1 h1.1.2 k (List.mem_range.2 hk);unfold instBe at h2;have hop:((F.blk i).inst k).op=1:=of_decide_eq_true hc;have hl:((F.blk i).inst k).args.length=1:=by
    obtain⟨-,h2,-⟩:=Yb0 ((Ya0 (Yv hT) hi).2.1 _ hx);rw[h2,hop];decide
   have h3:=List.all_eq_true.1 h2 _ (List.mem_of_getElem? (Yae (i:=0) ZO));rw[YeP hO hd ⟨hi,.inr ⟨k,hk,rfl,rfl⟩⟩];exact YgA hT hA hO ha hi ZO h3
 · obtain⟨hd,ha⟩:=hG.ph b hb p hp
   obtain⟨i,hi,rfl⟩:=YaL hb;obtain⟨k,hk,rfl⟩:=YeQ hp;have hpm:=YeN hT hJ hi hp;obtain⟨-,hlen,hl0,-⟩:=Ydc hT hi hp;have hi0:i≠0:=fun e=>by
    subst e;have:ith ((F.blk 0).phi k).froms 0∈((F.blk 0).phi k).froms:=List.mem_of_getElem? (Yae ZO);rw[hpm.mem_iff]at this;unfold Yd at this;obtain⟨y,hy,-⟩:=List.mem_map.1 this;obtain⟨h1,h2⟩:=YbH.1 hy;rw[Ygy hT h1]at h2;cases h2
   rcases Yc8 fin (hA i hi)with h1|⟨x,hx,he,hlt⟩
   · exact absurd h1 hi0
   · have hxn:=fin.lt x hx
     have hl':YM F x<YM F i:=hlt;have hm:(x:Int)∈((F.blk i).phi k).froms:=by
      rw[hpm.mem_iff];unfold Yd;exact List.mem_map.2 ⟨x,YbH.2 ⟨hxn,(Ybt hT hxn).1 he⟩,rfl⟩
     obtain⟨n,hn,e⟩:=List.getElem_of_mem hm;have hn2:n<((F.blk i).phi k).args.length:=by omega
     have h1:=hB i hi;unfold Yu at h1;simp only[Bool.and_eq_true]at h1;have h2:=List.all_eq_true.1 h1.1.1 _ hp;unfold YaN at h2;have h3:=List.all_eq_true.1 h2 n (List.mem_range.2 hn2);unfold pairOk at h3;have hf:ith ((F.blk i).phi k).froms n=(x:Int):=by simp[ith,List.getD,hn,e]
     rw[hf,Int.toNat_natCast]at h3;have hmem:ith ((F.blk i).phi k).args n∈((F.blk i).phi k).args:=List.mem_of_getElem? (Yae hn2);refine⟨_,hmem,?_⟩;have h4:=YgA hT hA hO (ha _ hmem) hxn ZO h3;rw[YeP hO hd ⟨hi,.inl ⟨rfl,_,hp,rfl⟩⟩];have h5:=Yf9 hxn;have h6:(YM F x+1)*(YbE F+3)≤YM F i*(YbE F+3):=Nat.mul_le_mul_right _ hl';rw[Nat.add_mul,Nat.one_mul]at h6;omega
theorem Ykv(hT:Yc F=true)(hO:YL F=true):∀b∈F.blocks,∀x∈b.insts,∀c∈F.blocks,∀y∈c.insts,inV F x.dst→x.dst=y.dst→x=y:=fun b hb x hx c hc y hy hv e=>by
 have _:=hT;obtain⟨i,hi,rfl⟩:=YaL hb;obtain⟨k,hk,rfl⟩:=YbI hx;obtain⟨j,hj,rfl⟩:=YaL hc;obtain⟨l,hl,rfl⟩:=YbI hy;have h1:=YaT (Ybh hO hv.1 hv.2) (⟨hi,.inr ⟨k,hk,rfl,rfl⟩⟩:Yo F ((F.blk i).inst k).dst i k);have h2:=YaT (Ybh hO hv.1 hv.2) (⟨hj,.inr ⟨l,hl,rfl,e.symm⟩⟩:Yo F ((F.blk i).inst k).dst j l);rw[h1]at h2;have h3:=congrArg Prod.fst h2;have h4:=congrArg Prod.snd h2;simp only at h3 h4;obtain rfl:i=j:=by omega
 obtain rfl:k=l:=by omega
 rfl
theorem Ykw(hO:YL F=true):∀b∈F.blocks,∀x∈b.insts,∀c∈F.blocks,∀p∈c.phis,inV F x.dst→p.dst≠x.dst:=fun b hb x hx c hc p hp hv e=>by
 obtain⟨i,hi,rfl⟩:=YaL hb;obtain⟨k,hk,rfl⟩:=YbI hx;obtain⟨j,hj,rfl⟩:=YaL hc;have h1:=YaT (Ybh hO hv.1 hv.2) (⟨hi,.inr ⟨k,hk,rfl,rfl⟩⟩:Yo F ((F.blk i).inst k).dst i k);have h2:=YaT (Ybh hO hv.1 hv.2) (⟨hj,.inl ⟨rfl,p,hp,e⟩⟩:Yo F ((F.blk i).inst k).dst j (-1));rw[h1]at h2;have h4:=congrArg Prod.snd h2;simp only at h4;omega
theorem Ykx{f:Nat→Nat}{n i:Nat}(hi:i<n):f i≤((List.range n).map f).sum:=by
 rw[YeE (b:=i) (f:=f) List.nodup_range (List.mem_range.2 hi)];omega
theorem Yky{α:Type}{q:α→Bool}{l:List α}(h:(l.filter q).length≤1){x y:α}(hx:x∈l)(hy:y∈l)(h1:q x=true)(h2:q y=true):x=y:=by
 have hx2:=List.mem_filter.2 ⟨hx,h1⟩;have hy2:=List.mem_filter.2 ⟨hy,h2⟩
 match hl:l.filter q,h with
 |[],_=>rw[hl]at hx2;cases hx2
 |[z],_=>
  rw[hl,List.mem_singleton]at hx2 hy2;rw[hx2,hy2]
theorem Ykz(hT:Yc F=true)(hO:YL F=true):∀b∈F.blocks,∀p∈b.phis,∀c∈F.blocks,∀q∈c.phis,p.dst=q.dst→p=q:=fun b hb p hp c hc q hq e=>by
 have hv:=((rgC hT).ph b hb p hp).1;have hone:=Ybh hO hv.1 hv.2;obtain⟨i,hi,rfl⟩:=YaL hb;obtain⟨j,hj,rfl⟩:=YaL hc;have h1:=YaT hone (⟨hi,.inl ⟨rfl,p,hp,rfl⟩⟩:Yo F p.dst i (-1));have h2:=YaT hone (⟨hj,.inl ⟨rfl,q,hq,e.symm⟩⟩:Yo F p.dst j (-1));rw[h1]at h2;have h3:=congrArg Prod.fst h2;simp only at h3;obtain rfl:i=j:=by omega
 unfold evF at hone;rw[Ygb]at hone;have h4:Yc7 F p.dst i≤1:=Nat.le_trans (Ykx (f:=Yc7 F p.dst) hi) hone;unfold Yc7 YbF at h4;rw[List.filter_map,List.length_map]at h4;have h5:((F.blk i).phis.filter ((fun x=>x==p.dst)∘fun x=>x.dst)).length≤1:=by omega
 exact Yky h5 hp hq ZS (by simp[e])
end
def clP(m:Int→Int)(p:PPhi):PPhi:={ p with args:=p.args.map m }
def clI(m:Int→Int)(x:PInst):PInst:={ x with args:=x.args.map m }
def clT(m:Int→Int)(t:PTerm):PTerm:=if t.kind=0 then t else { t with var:=m t.var }
def clB(m:Int→Int)(b:PBlock):PBlock:=
 ⟨b.name,(b.phis.filter fun p=>decide (m p.dst=p.dst)).map (clP m),(b.insts.filter fun x=>decide (m x.dst=x.dst)).map (clI m),clT m b.term⟩
def clF(m:Int→Int)(F:PFunc):PFunc:={ F with blocks:=F.blocks.map (clB m) }
def psB(x y:Int)(b:PBlock):PBlock:=
 ⟨b.name,(b.phis.filter fun p=>decide (p.dst≠x)).map (clP (sbI x y)),(b.insts.filter fun i=>decide (i.dst≠x)).map (clI (sbI x y)),clT (sbI x y) b.term⟩
def psF(x y:Int)(F:PFunc):PFunc:={ F with blocks:=F.blocks.map (psB x y) }
def YbS(F:PFunc)(m:Int→Int):Nat:=((List.range F.vars.length).filter fun v:Nat=>decide (m (v:Int)=(v:Int))).length
def Fnd(F:PFunc)(x y:Int):Prop:=∃b∈F.blocks,(∃i∈b.insts,isCp i=true∧i.dst=x∧ith i.args 0=y)∨∃p∈b.phis,p.dst=x∧YbD (fun v=>v) p y
section
variable {F:PFunc} {rk:Int→Nat} {m:Int→Int} {x y v:Int}
theorem YkA:clF (fun v=>v) F=F:=by
 have h1:∀p:PPhi,clP (fun v=>v) p=p:=fun p=>by
  unfold clP;rw[show p.args.map (fun v=>v)=p.args from List.map_id _]
 have h2:∀p:PInst,clI (fun v=>v) p=p:=fun p=>by
  unfold clI;rw[show p.args.map (fun v=>v)=p.args from List.map_id _]
 have h3:∀b:PBlock,clB (fun v=>v) b=b:=fun b=>by
  unfold clB;rw[List.filter_eq_self.2 ZS,List.filter_eq_self.2 ZS];have e1:b.phis.map (clP fun v=>v)=b.phis:=by
   conv=>rhs;rw[← List.map_id b.phis]
   exact List.map_congr_left fun p _=>h1 p
  have e2:b.insts.map (clI fun v=>v)=b.insts:=by
   conv=>rhs;rw[← List.map_id b.insts]
   exact List.map_congr_left fun p _=>h2 p
  rw[e1,e2];unfold clT;split<;>rfl
 unfold clF;have:F.blocks.map (clB fun v=>v)=F.blocks:=by
  conv=>rhs;rw[← List.map_id F.blocks]
  exact List.map_congr_left fun p _=>h3 p
 rw[this]
theorem YkB(h:CpI F rk m)(hy:m y=y)(hxy:x≠y):sbI x y (m v)=v↔m v=v∧v≠x:=by
 have _:=h;constructor
 · intro e
   by_cases e1:m v=x
   · unfold sbI at e
     rw[if_pos e1]at e;rw[← e,hy]at e1;exact absurd e1.symm hxy
   · unfold sbI at e
     rw[if_neg e1]at e;exact⟨e,fun e2=>e1 (by rw[e,e2])⟩
 · rintro⟨e1,e2⟩
   unfold sbI;rw[e1,if_neg e2]
theorem YmL(h:CpI F rk m)(hy:m y=y)(hxy:x≠y):psF x y (clF m F)=clF (fun v=>sbI x y (m v)) F:=by
 unfold psF clF;rw[List.map_map];congr 1;refine List.map_congr_left fun b _=>?_
 show psB x y (clB m b)=clB (fun v=>sbI x y (m v)) b;unfold psB clB;congr 1
 · rw[List.filter_map,List.map_map,List.filter_filter]
   congr 1
   · funext p
     unfold clP;simp[Function.comp,List.map_map]
   · refine List.filter_congr fun p _=>?_
     rw[Bool.eq_iff_iff];simp only[Bool.and_eq_true,Function.comp,decide_eq_true_eq];rw[YkB h hy hxy];exact⟨fun e=>⟨e.2,e.1⟩,fun e=>⟨e.2,e.1⟩⟩
 · rw[List.filter_map,List.map_map,List.filter_filter]
   congr 1
   · funext p
     unfold clI;simp[Function.comp,List.map_map]
   · refine List.filter_congr fun p _=>?_
     rw[Bool.eq_iff_iff];simp only[Bool.and_eq_true,Function.comp,decide_eq_true_eq];rw[YkB h hy hxy];exact⟨fun e=>⟨e.2,e.1⟩,fun e=>⟨e.2,e.1⟩⟩
 · unfold clT
   by_cases e:b.term.kind=0
   · simp[e]
   · simp[e]
theorem YgB(h:CpI F rk m)(hy:m y=y)(hxy:x≠y)(hx:m x=x)(hxr:inV F x):YbS F (fun v=>sbI x y (m v))<YbS F m:=by
 unfold YbS;have e1:((List.range F.vars.length).filter fun v:Nat=>decide (sbI x y (m (v:Int))=(v:Int)))=(((List.range F.vars.length).filter fun v:Nat=>decide (m (v:Int)=(v:Int))).filter fun v:Nat=>decide ((v:Int)≠x)):=by
  rw[List.filter_filter];refine List.filter_congr fun v _=>?_
  rw[Bool.eq_iff_iff];simp only[Bool.and_eq_true,decide_eq_true_eq];rw[YkB h hy hxy];exact⟨fun e=>⟨e.2,e.1⟩,fun e=>⟨e.2,e.1⟩⟩
 rw[e1];have hm:x.toNat∈(List.range F.vars.length).filter fun v:Nat=>decide (m (v:Int)=(v:Int)):=by
  have h0:=hxr.1;have h1:=hxr.2;refine List.mem_filter.2 ⟨List.mem_range.2 ZO,?_⟩;rw[Int.toNat_of_nonneg h0];simpa using hx
 refine Nat.lt_of_le_of_ne (List.length_filter_le _ _) fun e=>?_
 have:=List.filter_eq_self.1 (List.filter_sublist.eq_of_length e);have:=this _ hm;rw[Int.toNat_of_nonneg hxr.1]at this;simp at this
variable (hR:RkS F rk) (hG:RgC F) (h1:∀b∈F.blocks,∀i∈b.insts,∀c∈F.blocks,∀j∈c.insts,inV F i.dst→i.dst=j.dst→i=j)
 (h2:∀b∈F.blocks,∀i∈b.insts,∀c∈F.blocks,∀p∈c.phis,inV F i.dst→p.dst≠i.dst) (h3:∀b∈F.blocks,∀p∈b.phis,∀c∈F.blocks,∀q∈c.phis,p.dst=q.dst→p=q)
include hR hG h1 h2 h3
theorem YmX(h:CpI F rk m)(hf:Fnd (clF m F) x y):CpI F rk (fun v=>sbI x y (m v))∧psF x y (clF m F)=clF (fun v=>sbI x y (m v)) F∧YbS F (fun v=>sbI x y (m v))<YbS F m∧inV F x∧inV F y:=by
 obtain⟨b',hb',hf⟩:=hf;obtain⟨b,hb,rfl⟩:=List.mem_map.1 hb';have g1:∀b∈F.blocks,∀i∈b.insts,∀c∈F.blocks,∀j∈c.insts,isCp i=true→isCp j=true→i.dst=j.dst→i=j:=fun b hb i hi c hc j hj hi2 _ e=>h1 b hb i hi c hc j hj (hG.cp b hb i hi hi2).1 e
 have g2:∀b∈F.blocks,∀i∈b.insts,∀c∈F.blocks,∀p∈c.phis,isCp i=true→p.dst≠i.dst:=fun b hb i hi c hc p hp hi2=>h2 b hb i hi c hc p hp (hG.cp b hb i hi hi2).1
 rcases hf with⟨i',hi',hcp,rfl,rfl⟩|⟨p',hp',rfl,hid⟩
 · obtain⟨i,hi,rfl⟩:=List.mem_map.1 hi'
   obtain⟨hi,hx⟩:=List.mem_filter.1 hi;have hx:m i.dst=i.dst:=of_decide_eq_true hx;have hcp:isCp i=true:=hcp;have hrg:=hG.cp b hb i hi hcp;have hlt:=hR.cp b hb i hi hcp;have hl1:=hG.one b hb i hi hcp;have hy0:ith (clI m i).args 0=m (ith i.args 0):=by
    show ith (i.args.map m) 0=m (ith i.args 0);have h0:0<i.args.length:=by omega
    simp[ith,List.getD_eq_getElem?_getD,h0]
   rw[hy0];obtain⟨hne,hc⟩:=h.copy hR hG g1 g2 hb hi hcp hx;have hiv:inV F (m (ith i.args 0)):=h.rg _ hrg.2;exact⟨hc,YmL h (h.idem _) (fun e=>hne e.symm),YgB h (h.idem _) (fun e=>hne e.symm) hx hrg.1,hrg.1,hiv⟩
 · obtain⟨p,hp,rfl⟩:=List.mem_map.1 hp'
   obtain⟨hp,hx⟩:=List.mem_filter.1 hp;have hx:m p.dst=p.dst:=of_decide_eq_true hx;obtain⟨i1,i2,a',ha',i3⟩:=hid;obtain⟨a,ha,rfl⟩:=List.mem_map.1 ha';have i3:m a=y:=i3;have hid2:YbD m p y:=⟨i1,fun c hc=>i2 (m c) (List.mem_map.2 ⟨c,hc,rfl⟩),a,ha,i3⟩;have hc:=h.phi hR hG h3 g2 hb hp hx hid2;have hrg:=hG.ph b hb p hp;have hy:m y=y:=by rw[← i3];exact h.idem a
   exact⟨hc,YmL h hy (fun e=>i1 e.symm),YgB h hy (fun e=>i1 e.symm) hx hrg.1,hrg.1,by rw[← i3];exact h.rg a (hrg.2 a ha)⟩
end
structure FoM (F:PFunc) (rk:Int→Nat) (r:List Int) (m:Int→Int):Prop where
 len:r.length=F.vars.length
 at_:∀v,inV F v→inV F (ith r v.toNat)∧(ith r v.toNat=v→m v=v)∧(ith r v.toNat≠v→m v=m (ith r v.toNat)∧rk (ith r v.toNat)<rk v)
def onlyN(m:Int→Int)(x:Int):List Int→Int→Bool→Int×Bool
 |[],o,f=>(o,f)
 |a::l,o,f=>if m a=x then onlyN m x l o f else if f=true∧m a≠o then(x,false) else onlyN m x l (m a) true
def cpB(m:Int→Int)(b:PBlock):PBlock:=
 ⟨b.name,(b.phis.filter fun p=>decide (m p.dst=p.dst)).map (clP m),(b.insts.filter fun x=>!isCp x).map (clI m),clT m b.term⟩
section
variable {F:PFunc} {rk:Int→Nat} {m:Int→Int} {r:List Int} {x y v:Int}
theorem FoM.id_:FoM F rk ((List.range F.vars.length).map fun(k:Nat)=>(k:Int)) (fun v=>v):=by
 refine⟨ZS,fun v hv=>?_⟩;have h0:=hv.1;have h1:=hv.2;have e:ith ((List.range F.vars.length).map fun(k:Nat)=>(k:Int)) v.toNat=v:=by
  have hl:v.toNat<F.vars.length:=by omega
  simp[ith,List.getD_eq_getElem?_getD,hl];omega
 rw[e];exact⟨hv,fun _=>rfl,fun h=>absurd rfl h⟩
theorem FoM.fix(h:FoM F rk r m)(hC:CpI F rk m)(hv:inV F v):ith r v.toNat=v↔m v=v:=by
 obtain⟨-,h1,h2⟩:=h.at_ v hv;refine⟨h1,fun e=>Classical.byContradiction fun hc=>?_⟩;obtain⟨h3,h4⟩:=h2 hc;rw[e]at h3;rcases hC.rk (ith r v.toNat)with e2|e2
 · rw[← h3]at e2
   exact hc e2.symm
 · rw[← h3]at e2
   omega
theorem FoM.put(h:FoM F rk r m)(hx:inV F x)(hf:ith r x.toNat=x)(hy:inV F y)(hm:m y=y)(hr:rk y<rk x):FoM F rk (r.set x.toNat y) (fun v=>sbI x y (m v)):=by
 have hyx:y≠x:=fun e=>by rw[e]at hr;omega
 have hx0:=hx.1;have hx1:=hx.2;have hl:=h.len;refine⟨by rw[List.length_set];exact hl,fun v hv=>?_⟩;have hv0:=hv.1;have hv1:=hv.2
 by_cases e:v=x
 · subst e
   have e1:ith (r.set v.toNat y) v.toNat=y:=by
    have hl2:v.toNat<r.length:=by omega
    simp[ith,List.getD_eq_getElem?_getD,hl2]
   rw[e1];refine⟨hy,fun e2=>absurd e2 hyx,fun _=>⟨?_,hr⟩⟩;show sbI v y (m v)=sbI v y (m y);rw[(h.at_ v hx).2.1 hf,hm];unfold sbI;rw[if_pos rfl,if_neg hyx]
 · have e1:ith (r.set x.toNat y) v.toNat=ith r v.toNat:=by
    have:x.toNat≠v.toNat:=by omega
    simp[ith,List.getD_eq_getElem?_getD,List.getElem?_set_ne this]
   rw[e1];obtain⟨h1,h2,h3⟩:=h.at_ v hv;refine⟨h1,fun e2=>?_,fun e2=>?_⟩
   · show sbI x y (m v)=v
     rw[h2 e2];exact if_neg e
   · obtain⟨h4,h5⟩:=h3 e2
     refine⟨?_,h5⟩;show sbI x y (m v)=sbI x y (m (ith r v.toNat));rw[h4]
theorem YeR:∀{l:List Int} {o:Int} {f:Bool},onlyN m x l o f=(y,true)→(∀a∈l,m a=x∨m a=y)∧(f=true→y=o)∧(f=false→y≠x∧∃a∈l,m a=y)
 |[],o,f,h=>by
  simp only[onlyN,Prod.mk.injEq]at h;obtain⟨rfl,rfl⟩:=h;exact⟨fun a ha=>by(cases ha),fun _=>rfl,fun h=>by cases h⟩
 |a::l,o,f,h=>by
  rw[onlyN]at h
  by_cases e:m a=x
  · rw[if_pos e]at h
    obtain⟨h1,h2,h3⟩:=YeR h;refine⟨fun c hc=>?_,h2,fun hf=>⟨(h3 hf).1,?_⟩⟩
    · rcases List.mem_cons.1 hc with rfl|hc
      · exact .inl e
      · exact h1 c hc
    · obtain⟨c,hc,hy⟩:=(h3 hf).2
      exact⟨c,List.mem_cons_of_mem _ hc,hy⟩
  · rw[if_neg e]at h
    by_cases e2:f=true∧m a≠o
    · rw[if_pos e2]at h
      simp at h
    · rw[if_neg e2]at h
      obtain⟨h1,h2,-⟩:=YeR h;have hy:=h2 rfl;refine⟨fun c hc=>?_,fun hf=>?_,fun _=>⟨by rw[hy];exact e,a,List.mem_cons_self ..,hy.symm⟩⟩
      · rcases List.mem_cons.1 hc with rfl|hc
        · exact .inr hy.symm
        · exact h1 c hc
      · rw[hy]
        exact Classical.byContradiction fun hc=>e2 ⟨hf,hc⟩
theorem YeS:∀{l:List Int} {o z:Int} {f:Bool},onlyN m x l o f=(z,false)→∀y,y≠x→(∀a∈l,m a=x∨m a=y)→(f=true→o=y)→(f=true∨∃a∈l,m a=y)→False
 |[],o,z,f,h,y,_,_,_,h3=>by
  simp only[onlyN,Prod.mk.injEq]at h;rw[h.2]at h3;rcases h3 with h3|⟨a,ha,-⟩
  · cases h3
  · cases ha
 |a::l,o,z,f,h,y,hy,h1,h2,h3=>by
  rw[onlyN]at h;have h1':∀c∈l,m c=x∨m c=y:=fun c hc=>h1 c (List.mem_cons_of_mem _ hc)
  by_cases e:m a=x
  · rw[if_pos e]at h
    refine YeS h y hy h1' h2 ?_;rcases h3 with h3|⟨c,hc,h4⟩
    · exact .inl h3
    · rcases List.mem_cons.1 hc with rfl|hc
      · rw[e]at h4
        exact absurd h4.symm hy
      · exact .inr ⟨c,hc,h4⟩
  · rw[if_neg e]at h
    have hay:=(h1 a (List.mem_cons_self ..)).resolve_left e
    by_cases e2:f=true∧m a≠o
    · exact e2.2 (by rw[hay,h2 e2.1])
    · rw[if_neg e2]at h
      exact YeS h y hy h1' (fun _=>hay) (.inl rfl)
theorem YkC{p:PPhi}(h:onlyN m p.dst p.args p.dst false=(y,true)):YbD m p y:=by
 obtain⟨h1,-,h3⟩:=YeR h;exact⟨(h3 rfl).1,h1,(h3 rfl).2⟩
theorem YkD{p:PPhi}{z:Int}(h:onlyN m p.dst p.args p.dst false=(z,false)):∀y,¬YbD m p y:=fun y hy=>
 YeS h y hy.1 hy.2.1 (fun e=>by cases e) (.inr hy.2.2)
theorem YmY(h:CpI F rk m)(hn:∀x y,¬Fnd (clF m F) x y):EqR F (fun u v=>m u=m v):=by
 refine h.closed (fun b hb i hi hc e=>?_) (fun b hb p hp e y hy=>?_)
 · exact hn _ _ ⟨_,List.mem_map.2 ⟨b,hb,rfl⟩,.inl ⟨_,List.mem_map.2 ⟨i,List.mem_filter.2 ⟨hi,by simpa using e⟩,rfl⟩,hc,rfl,rfl⟩⟩
 · obtain⟨h1,h2,a,ha,h3⟩:=hy
   refine hn p.dst y ⟨_,List.mem_map.2 ⟨b,hb,rfl⟩,.inr ⟨clP m p,List.mem_map.2 ⟨p,List.mem_filter.2 ⟨hp,by simpa using e⟩,rfl⟩,rfl,h1,fun c hc=>?_,m a,List.mem_map.2 ⟨a,ha,rfl⟩,h3⟩⟩;obtain⟨d,hd,rfl⟩:=List.mem_map.1 hc;exact h2 d hd
theorem YkE(h:CpI F rk m)(hG:RgC F)(hc:∀b∈F.blocks,∀x∈b.insts,isCp x=true→m x.dst≠x.dst)
 (h1:∀b∈F.blocks,∀i∈b.insts,∀c∈F.blocks,∀j∈c.insts,inV F i.dst→i.dst=j.dst→i=j) (h2:∀b∈F.blocks,∀i∈b.insts,∀c∈F.blocks,∀p∈c.phis,inV F i.dst→p.dst≠i.dst)
 {b:PBlock} (hb:b∈F.blocks):cpB m b=clB m b:=by
 unfold cpB clB;congr 2;refine List.filter_congr fun x hx=>?_
 cases e:isCp x
 · refine(decide_eq_true ?_).symm
   refine Classical.byContradiction fun hne=>?_
   obtain⟨c,hc2,⟨j,hj,hj2,hjx⟩|⟨p,hp,hpx⟩⟩:=h.made _ hne
   · have hv:=(hG.cp c hc2 j hj hj2).1
     rw[h1 c hc2 j hj b hb x hx hv hjx,e]at hj2;cases hj2
   · have hv:=(hG.ph c hc2 p hp).1
     rw[hpx]at hv;exact h2 b hb x hx c hc2 p hp hv hpx
 · exact(decide_eq_false (hc b hb x hx e)).symm
end
def FoW(w:World)(g:Nat)(r:List Int):Prop:=g<w.heap.size∧∀i,i<r.length→w.cell? ⟨g,i,none⟩=some (.int .i64 (ith r i))
theorem FoW.below{w w':World}{g:Nat}{r:List Int}(h:FoW w g r)(hb:Below w.heap.size w w'):FoW w' g r:=
 ⟨Nt h.1 hb.size,fun i hi=>(hb.cell (p:=⟨g,i,none⟩) h.1).trans (h.2 i hi)⟩
set_option maxHeartbeats 2000000 in
theorem YeT{F:PFunc}{rk:Int→Nat}{r:List Int}{m:Int→Int}{w:World}{g c:Nat}{v:Int}(hF:FoM F rk r m)(hr:FoW w g r)(hv:inV F v) :
 Calls Tryz.prog 54 #[.slice (some ⟨g,0,none⟩) F.vars.length c,.int .i64 v] w fun e w'=>e=.returned (.int .i64 (m v))∧Below w.heap.size w w':=by
 obtain⟨x,rfl⟩:∃x:Nat,v=x:=⟨v.toNat,by have:=hv.1;omega⟩;have HF:=Lh hF;have HR:=Lh hr;have HV:=Lh hv;clear hF hr hv;go_enter Tryz.func54,Tryz.ntmps54;go_wp2
 go_loopw[1] (fun v1 wr=>∃u:Nat,v1=.int .i64 u∧inV F u∧m u=m (x:Int)∧Below w.heap.size w wr) (fun v1 _=>rk (intOf v1))
 case atStart=>exact⟨x,rfl,HV.out,rfl,Br _ _⟩
 case round=>as_aux_lemma=>
  obtain⟨u,rfl,hu,hm,hb⟩:=hrel;have hul:(u:Int)<(F.vars.length:Int):=hu.2;have hul2:u<r.length:=by rw[HF.out.len];omega
  obtain⟨h1,h2,h3⟩:=HF.out.at_ u hu;rw[Int.toNat_natCast]at h1 h2 h3;have hrw:=HR.out.below hb;have hc:=hrw.2 u hul2;have hg:=hrw.1;generalize ith r u=z at *
  by_cases e:z=(u:Int)
  · as_aux_lemma=>
    have hmu:=h2 e;have e0:(z !=(u:Int))=false:=by rw[bne_eq_false_iff_eq];exact e
    clear h1 h2 h3;go_wp2;go_ret;exact⟨by rw[← hm,hmu];rfl,hb⟩
  · as_aux_lemma=>
    obtain⟨h4,h5⟩:=h3 e;have e0:(z !=(u:Int))=true:=by rw[bne_iff_ne];exact e
    obtain⟨z',rfl⟩:∃z':Nat,z=z':=⟨z.toNat,by have:=h1.1;omega⟩;clear h2 h3;have HI:=Lh h1;have H4:=Lh h4;have H5:=Lh h5;have HM:=Lh hm;clear h1 h4 h5 hm;go_wp2;go_roundw
    case rel=>exact⟨z',rfl,HI.out,by rw[← H4.out,HM.out],hb⟩
    case measure=>exact H5.out
theorem YkF{m:Int→Int}{x:Int}{l:List Int}{k:Nat}{o:Int}{f:Bool}(hk:k<l.length) :
 onlyN m x (l.drop k) o f=if m (ith l k)=x then onlyN m x (l.drop (k+1)) o f else if f=true∧m (ith l k)≠o then(x,false) else onlyN m x (l.drop (k+1)) (m (ith l k)) true:=by
 rw[List.drop_eq_getElem_cons hk,onlyN];simp[ith,List.getD_eq_getElem?_getD,hk]
set_option maxHeartbeats 4000000 in
theorem YkG{F:PFunc}{rk:Int→Nat}{r:List Int}{m:Int→Int}{W w:World}{g c c1:Nat}{p:PPhi}{A:Option Addr}{fr:Value}(hF:FoM F rk r m)(hr:FoW w g r)(hA:Rd W.heap.size A p.args 1 (Yi W))(hl:Len p.args.length)(hW:Below W.heap.size W w)(hin:∀a∈p.args,inV F a) :
 Calls Tryz.prog 111 #[.slice (some ⟨g,0,none⟩) F.vars.length c,.agg #[.int .i64 p.dst,.slice A p.args.length c1,fr]] w fun e w'=>e=.returned (.tuple #[.int .i64 (onlyN m p.dst p.args p.dst false).1,.bool (onlyN m p.dst p.args p.dst false).2])∧Below w.heap.size w w':=by
 have HRO:=Lh (fun(w':World) (h:Below w.heap.size w w') (v:Int) (hv:inV F v)=>YeT (c:=c) hF (hr.below h) hv);have hws:=hW.size;unfold Len at hl;generalize p.dst=x at *;generalize p.args=l at *;clear hF hr;go_enter Tryz.func111,Tryz.ntmps111;go_wp2_with fail
 go_loopw[6,7,15] (fun o f i wr=>∃(k:Nat) (o':Int) (f':Bool),o=.int .i64 o'∧f=.bool f'∧i=.int .i64 k∧k≤l.length∧onlyN m x l x false=onlyN m x (l.drop k) o' f'∧BoxAt wr w.heap.size #[.int .i64 x,.slice A l.length c1,fr] 64∧Below w.heap.size w wr) (fun _ _ i _=>l.length-(intOf i).toNat)
 case atStart=>exact⟨0,x,false,rfl,rfl,rfl,Nz _,by rw[List.drop_zero],BoxAt.new _ _ _,(Br _ _).alloc (Nr _) _⟩
 case round=>as_aux_lemma=>
  obtain⟨k,o',f',rfl,rfl,rfl,hk,he,hx,hB⟩:=hrel;have q0:=hx.cell 0;have ql:=hx.lt;simp at q0
  by_cases hlt:k<l.length
  · as_aux_lemma=>
    obtain⟨b,off,rfl,hb,hc⟩:=hA.int (hW.trans (hB.mono hws)) hlt;have hi:inV F (ith l k):=hin _ (List.mem_of_getElem? (Yae hlt));rw[YkF hlt]at he;have hro:=HRO.out _ hB (ith l k) hi;have HX:=Lh hx;have HB:=Lh hB;have HE:=Lh he;generalize m (ith l k)=z at *;clear he hx hB hi;go_wp2_with fail;refine hro.mono ?_;rintro e wv ⟨rfl,hbv⟩;have hx':=HX.out.below hbv ql;have hB':=HB.out.trans (hbv.mono HB.out.size);clear q0 ql hc;have q0:=hx'.cell 0;have ql:=hx'.lt;simp at q0;have HX':=Lh hx';have HB':=Lh hB';clear hx' hB' hbv
    by_cases e1:z=x
    · as_aux_lemma=>
      have d0:(z==x)=true:=by rw[beq_iff_eq];exact e1
      have HE2:=Lh (HE.out.trans (if_pos e1));clear HE e1;go_wp2_with fail;go_roundw
      case rel=>exact⟨k+1,o',f',rfl,rfl,ZN,ZO,HE2.out,HX'.out,HB'.out⟩
      case measure=>simp[intOf];omega
    · have d0:(z==x)=false:=by rw[beq_eq_false_iff_ne];exact e1
      have HE2:=Lh (HE.out.trans (if_neg e1));cases f'
      · as_aux_lemma=>
        have HE3:=Lh (HE2.out.trans (if_neg ZS));clear HE HE2 e1;go_wp2_with fail;go_roundw
        case rel=>exact⟨k+1,z,true,rfl,rfl,ZN,ZO,HE3.out,HX'.out,HB'.out⟩
        case measure=>simp[intOf];omega
      · by_cases e2:z=o'
        · as_aux_lemma=>
          have d1:(z !=o')=false:=by rw[bne_eq_false_iff_eq];exact e2
          have HE3:=Lh (HE2.out.trans (if_neg (by rw[e2];simp)));clear HE HE2 e1 e2;go_wp2_with fail;go_roundw
          case rel=>exact⟨k+1,z,true,rfl,rfl,ZN,ZO,HE3.out,HX'.out,HB'.out⟩
          case measure=>simp[intOf];omega
        · as_aux_lemma=>
          have d1:(z !=o')=true:=by rw[bne_iff_ne];exact e2
          have HE3:=Lh (HE2.out.trans (if_pos ⟨rfl,e2⟩));clear HE HE2 e1 e2;go_wp2_with fail;refine bodyPost_ret (v:=.tuple #[.int .i64 x,.bool false]) (by simp[results,Tryz.results111,go_sem]) rfl ?_;rw[HE3.out];exact⟨rfl,HB'.out⟩
  · as_aux_lemma=>
    obtain rfl:k=l.length:=by omega
    rw[List.drop_length,onlyN]at he;have HE:=Lh he;clear he;go_wp2_with fail;refine bodyPost_ret (v:=.tuple #[.int .i64 o',.bool f']) (by simp[results,Tryz.results111,go_sem]) rfl ?_;rw[HE.out];exact⟨rfl,hB⟩
def FoB(w:World)(g:Nat)(r:List Int):Prop:=∃ex:List Value,BoxAt w g (r.map (Value.int .i64)++ex).toArray 3
section
variable {w w':World} {g:Nat} {r:List Int}
theorem FoB.fo(h:FoB w g r):FoW w g r:=by
 obtain⟨ex,h⟩:=h;refine⟨h.lt,fun i hi=>?_⟩;rw[h.cell i,List.getElem?_toArray,List.getElem?_append_left (by simpa using hi)];simp[ith,List.getD_eq_getElem?_getD,hi]
theorem FoB.frozen(h:FoB w g r)(j:Nat):w.frozen? ⟨g,j,none⟩=false:=by
 obtain⟨ex,h⟩:=h;exact BoxAt.frozen h j
theorem FoB.below(h:FoB w g r)(hb:Below w.heap.size w w'):FoB w' g r:=by
 obtain⟨ex,h⟩:=h;exact⟨ex,h.below hb h.lt⟩
theorem FoB.set(h:FoB w g r){j:Nat}(hj:j<r.length)(v:Int):FoB (w.setCell ⟨g,j,none⟩ (.int .i64 v)) g (r.set j v):=by
 obtain⟨ex,h⟩:=h;refine⟨ex,?_⟩;have:=h.set j (.int .i64 v)
 rw[show(r.map (Value.int .i64)++ex).toArray.setIfInBounds j (.int .i64 v)=((r.set j v).map (Value.int .i64)++ex).toArray by
  rw[La,List.set_append_left _ _ (by simpa using hj),List.map_set]]at this
 exact this
end
structure Lrn (F:PFunc) (rk:Int→Nat) (m:Int→Int) (r:List Int) (ch:Bool) (m':Int→Int) (r':List Int):Prop where
 c:CpI F rk m'
 f:FoM F rk r' m'
 no:ch=false→m'=m∧r'=r
 yes:ch=true→YbS F m'<YbS F m
structure CpH (F:PFunc) (rk:Int→Nat):Prop where
 r:RkS F rk
 g:RgC F
 i:∀b∈F.blocks,∀i∈b.insts,∀c∈F.blocks,∀j∈c.insts,inV F i.dst→i.dst=j.dst→i=j
 ip:∀b∈F.blocks,∀i∈b.insts,∀c∈F.blocks,∀p∈c.phis,inV F i.dst→p.dst≠i.dst
 p:∀b∈F.blocks,∀p∈b.phis,∀c∈F.blocks,∀q∈c.phis,p.dst=q.dst→p=q
section
variable {F:PFunc} {rk:Int→Nat} {m m':Int→Int} {r r':List Int} {ch:Bool} {y:Int}
theorem Lrn.phi(h:Lrn F rk m r ch m' r')(H:CpH F rk){b:PBlock}(hb:b∈F.blocks){p:PPhi}(hp:p∈b.phis)(ho:onlyN m' p.dst p.args p.dst false=(y,true))(hf:ith r' p.dst.toNat=p.dst):Lrn F rk m r true (fun v=>sbI p.dst y (m' v)) (r'.set p.dst.toNat y):=by
 have hid:=YkC ho;have hrg:=H.g.ph b hb p hp;have hx:=(h.f.fix h.c hrg.1).1 hf;have hc:=h.c.phi H.r H.g H.p (fun b hb i hi c hc p hp hi2=>H.ip b hb i hi c hc p hp (H.g.cp b hb i hi hi2).1) hb hp hx hid;obtain⟨a,ha,hay⟩:=hid.2.2;have hy:m' y=y:=by rw[← hay];exact h.c.idem a
 have hyr:inV F y:=by rw[← hay];exact h.c.rg a (hrg.2 a ha)
 have hyx:p.dst≠y:=fun e=>hid.1 e.symm
 have hrk:rk y<rk p.dst:=by
  rcases hc.rk p.dst with e|e
  · have e:sbI p.dst y (m' p.dst)=p.dst:=e
    rw[hx]at e;unfold sbI at e;rw[if_pos rfl]at e;exact absurd e.symm hyx
  · have e:rk (sbI p.dst y (m' p.dst))<rk p.dst:=e
    rw[hx]at e;unfold sbI at e;rw[if_pos rfl]at e;exact e
 have hlt:=YgB h.c hy hyx hx hrg.1;refine⟨hc,h.f.put hrg.1 hf hyr hy hrk,fun e=>by(cases e),fun _=>?_⟩;cases hch:ch
 · rw[(h.no hch).1]at hlt⊢
   exact hlt
 · have:=h.yes hch
   omega
theorem Lrn.copy(h:Lrn F rk m r ch m' r')(H:CpH F rk){b:PBlock}(hb:b∈F.blocks){i:PInst}(hi:i∈b.insts)(hcp:isCp i=true)(hf:ith r' i.dst.toNat=i.dst):Lrn F rk m r true (fun v=>sbI i.dst (m' (ith i.args 0)) (m' v)) (r'.set i.dst.toNat (m' (ith i.args 0))):=by
 have hrg:=H.g.cp b hb i hi hcp;have hx:=(h.f.fix h.c hrg.1).1 hf;obtain⟨hne,hc⟩:=h.c.copy H.r H.g (fun b hb i hi c hc j hj hi2 _ e=>H.i b hb i hi c hc j hj (H.g.cp b hb i hi hi2).1 e) (fun b hb i hi c hc p hp hi2=>H.ip b hb i hi c hc p hp (H.g.cp b hb i hi hi2).1) hb hi hcp hx;have hy:=h.c.idem (ith i.args 0);have hyr:=h.c.rg _ hrg.2;have hlt:=YgB h.c hy (fun e=>hne e.symm) hx hrg.1;have hrk:rk (m' (ith i.args 0))<rk i.dst:=by
  have:=H.r.cp b hb i hi hcp;rcases h.c.rk (ith i.args 0)with e|e
  · rw[e];exact this
  · exact ZO
 refine⟨hc,h.f.put hrg.1 hf hyr hy hrk,fun e=>by(cases e),fun _=>?_⟩;cases hch:ch
 · rw[(h.no hch).1]at hlt⊢
   exact hlt
 · have:=h.yes hch
   omega
end
theorem YdI{w:World}{g:Nat}{r:List Int}(h:FoB w g r){F:PFunc}(hl:r.length=F.vars.length){x:Nat}(hx:inV F x):w.cell? ⟨g,x,none⟩=some (.int .i64 (ith r x))∧w.frozen? ⟨g,x,none⟩=false∧g<w.heap.size∧(x:Int)<(F.vars.length:Int):=by
 have h1:=hx.2;exact⟨h.fo.2 x ZO,h.frozen x,h.fo.1,h1⟩
set_option maxHeartbeats 8000000 in
theorem YkH{F:PFunc}{rk:Int→Nat}{m:Int→Int}{r:List Int}{W w:World}{g c c3 c4:Nat}{A3 A4:Option Addr}{b:PBlock}{x0 x3 x4 x5 x6:Value}(H:CpH F rk)(hb:b∈F.blocks)(hL:Lrn F rk m r false m r)(hr:FoB w g r)(hW:Below W.heap.size W w)(hgW:W.heap.size≤g)
 (r3:Rd W.heap.size A3 b.phis 3 (PhiC W W.heap.size)) (r4:Rd W.heap.size A4 b.insts 4 (InstC W W.heap.size)) (l3:Len b.phis.length) (l4:Len b.insts.length) :
 Calls Tryz.prog 86 #[.slice (some ⟨g,0,none⟩) F.vars.length c,.agg #[x0,.slice A3 b.phis.length c3,.slice A4 b.insts.length c4,x3,x4,x5,x6]] w fun e w'=>∃ch m' r',e=.returned (.bool ch)∧Lrn F rk m r ch m' r'∧FoB w' g r'∧Below g w w'∧
  (ch=false→(∀k,k<b.phis.length→m (b.phi k).dst=(b.phi k).dst→∀y,¬YbD m (b.phi k) y)∧∀k,k<b.insts.length→isCp (b.inst k)=true→m (b.inst k).dst≠(b.inst k).dst):=by
 have hws:=hW.size;have hg:=hr.fo.1;have HL:=Lh hL;have HR:=Lh hr;have HH:=Lh H;unfold Len at l3 l4;clear hL hr H;go_enter Tryz.func86,Tryz.ntmps86;go_wp2_with fail
 go_loopw[5,15] (fun f i wr=>∃(k:Nat) (ch:Bool) (m':Int→Int) (r':List Int),f=.bool ch∧i=.int .i64 k∧k≤b.phis.length∧Lrn F rk m r ch m' r'∧FoB wr g r'∧BoxAt wr w.heap.size #[x0,.slice A3 b.phis.length c3,.slice A4 b.insts.length c4,x3,x4,x5,x6] 62∧Below g w wr∧
  (ch=false→∀j,j<k→m (b.phi j).dst=(b.phi j).dst→∀y,¬YbD m (b.phi j) y)) (fun _ i _=>b.phis.length-(intOf i).toNat)
 case atStart=>exact⟨0,false,m,r,rfl,rfl,Nz _,HL.out,HR.out.below ((Br _ _).alloc (Nr _) _),BoxAt.new _ _ _,(Br _ _).alloc ZO _,fun _ j hj=>ZO⟩
 case round=>as_aux_lemma=>
  obtain⟨k,ch,m',r',rfl,rfl,hk,hL,hr,hx,hB,hN⟩:=hrel
  by_cases hlt:k<b.phis.length
  · as_aux_lemma=>
    have hWr:Below W.heap.size W wr:=hW.trans (hB.mono hgW);obtain⟨bp,op,A5,c5,A6,c6,rfl,hbp,hp0,hp1,hp2,l5,l6,k5,k6,r5,r6⟩:=r3.phi hWr hlt;have hpm:b.phi k∈b.phis:=YaH hlt;obtain⟨hdv,hav⟩:=HH.out.g.ph b hb _ hpm;have HW':=Lh hWr;have hon:=fun(w':World) (h:Below wr.heap.size wr w')=>YkG (c:=c) (c1:=c5) (fr:=.slice A6 (b.phi k).froms.length c6) hL.f (hr.below h).fo r5 l5 (hWr.trans (h.mono hWr.size)) hav
    obtain⟨x,hx1⟩:∃x:Nat,(b.phi k).dst=x:=⟨(b.phi k).dst.toNat,by have:=hdv.1;omega⟩;rw[hx1]at hdv hp0;obtain⟨y,ok,hok⟩:∃y ok,onlyN m' (b.phi k).dst (b.phi k).args (b.phi k).dst false=(y,ok):=⟨_,_,rfl⟩;have hon2:=hon;simp only[hok]at hon2;rw[hx1]at hon2;have hnx:=YkD (m:=m') (p:=b.phi k) (z:=y);have HLP:=Lh (fun(ho:onlyN m' (b.phi k).dst (b.phi k).args (b.phi k).dst false=(y,true)) (hf:ith r' (b.phi k).dst.toNat=(b.phi k).dst)=>hL.phi HH.out hb hpm ho hf);have HFX:=Lh (fun h=>(hL.f.fix hL.c (HH.out.g.ph b hb _ hpm).1).2 h);rw[hok,hx1,Int.toNat_natCast]at HLP;rw[hok]at hnx;rw[hx1,Int.toNat_natCast]at HFX;have HNX:=Lh hnx;have HLR:=Lh hL;have HRR:=Lh hr;have HXX:=Lh hx;have HBB:=Lh hB;have HNN:=Lh hN;have HDV:=Lh hdv;have hll:=hL.f.len;have HX1:=Lh hx1;have hxl:=hx.lt;clear hL hr hx hB hN hon hnx hok hav hx1;have q1:=HXX.out.cell 1;simp at q1;obtain⟨W1,hW1⟩:∃W1:World,W1=wr.alloc (.cells #[.int .i64 (x:Int),.slice A5 (b.phi k).args.length c5,.slice A6 (b.phi k).froms.length c6] 64):=⟨_,rfl⟩;have hb1:Below wr.heap.size wr W1:=by rw[hW1];exact(Br _ _).alloc (Nr _) _
    have hbx1:BoxAt W1 wr.heap.size #[.int .i64 (x:Int),.slice A5 (b.phi k).args.length c5,.slice A6 (b.phi k).froms.length c6] 64:=by rw[hW1];exact BoxAt.new _ _ _
    have HON:=Lh hon2;clear hon2;go_wp2_with fail;rw[← hW1];refine(HON.out _ hb1).mono ?_;rintro e wv ⟨rfl,hbv⟩;have hrv:=(HRR.out.below hb1).below hbv;have hbx2:=hbx1.below hbv hbx1.lt;have hxv:=(HXX.out.below hb1 HXX.out.lt).below hbv (HXX.out.below hb1 HXX.out.lt).lt;have hBv:=HBB.out.trans ((hb1.trans (hbv.mono hb1.size)).mono (Nat.le_trans (Nat.le_of_lt hg) HBB.out.size));obtain⟨f0,f1,f2,f3⟩:=YdI hrv hll HDV.out;have p0:=hbx2.cell 0;have pl:=hbx2.lt;simp at p0;clear q1 hp0 hp1 hp2 hb1 hbv hbx1 hW1;have HRV:=Lh hrv;have HXV:=Lh hxv;have HBV:=Lh hBv;have hns:∀(hc:ok=false∨ith r' x≠(x:Int)),ch=false→∀j,j<k+1→m (b.phi j).dst=(b.phi j).dst→∀y,¬YbD m (b.phi j) y:=fun hc hch j hj hm=>by
     have hmm:=(HLR.out.no hch).1
     by_cases e:j=k
     · subst e
       rcases hc with hc|hc
       · rw[← hmm]
         exact HNX.out (by rw[hc])
       · rw[← hmm,HX1.out]at hm
         exact absurd (HFX.out hm) hc
     · exact HNN.out hch j ZO hm
    have HNS:=Lh hns;clear hrv hxv hBv hns hbx2;cases ok
    · as_aux_lemma=>
      clear f0 f1 f3;go_wp2_with fail
      go_quiet (fail)
      go_wp2_with fail;go_roundw
      case rel=>exact⟨k+1,ch,m',r',rfl,ZN,ZO,HLR.out,HRV.out.below (YQ (Br _ _) _),HXV.out.below (YQ (Br _ _) _) HXV.out.lt,YQ HBV.out _,HNS.out (.inl (by first|trivial|rfl))⟩
      case measure=>simp[intOf];omega
    · by_cases hf:ith r' x=(x:Int)
      · as_aux_lemma=>
        have d0:(ith r' x==(x:Int))=true:=by rw[beq_iff_eq];exact hf
        have HLQ:=Lh (HLP.out rfl hf);clear hf;have hxn:x<r'.length:=by rw[hll];omega
        go_wp2_with fail
        go_quiet (fail)
        go_wp2_with fail;go_roundw
        case rel=>exact⟨k+1,true,_,_,rfl,ZN,ZO,HLQ.out,(HRV.out.below (YQ (Br _ _) _)).set hxn _,(HXV.out.below (YQ (Br _ _) _) HXV.out.lt).other ZX _,(YQ HBV.out _).setCell (Nr _) _,fun e=>by cases e⟩
        case measure=>simp[intOf];omega
      · as_aux_lemma=>
        have d0:(ith r' x==(x:Int))=false:=by rw[beq_eq_false_iff_ne];exact hf
        have HNT:=Lh (HNS.out (.inr hf));clear hf;go_wp2_with fail
        go_quiet (fail)
        go_wp2_with fail;go_roundw
        case rel=>exact⟨k+1,ch,m',r',rfl,ZN,ZO,HLR.out,HRV.out.below (YQ (Br _ _) _),HXV.out.below (YQ (Br _ _) _) HXV.out.lt,YQ HBV.out _,HNT.out⟩
        case measure=>simp[intOf];omega
  · as_aux_lemma=>
    obtain rfl:k=b.phis.length:=by omega
    have q2:=hx.cell 2;have ql:=hx.lt;simp at q2;have HNP:=Lh hN;have HLR:=Lh hL;have HRR:=Lh hr;have HXX:=Lh hx;have HBB:=Lh hB;clear hL hr hx hB hN;go_wp2_with fail;clear q2 ql
    go_loopw[5,45] (fun f i wr=>∃(k:Nat) (ch:Bool) (m':Int→Int) (r':List Int),f=.bool ch∧i=.int .i64 k∧k≤b.insts.length∧Lrn F rk m r ch m' r'∧FoB wr g r'∧BoxAt wr w.heap.size #[x0,.slice A3 b.phis.length c3,.slice A4 b.insts.length c4,x3,x4,x5,x6] 62∧Below g w wr∧
     (ch=false→(∀j,j<b.phis.length→m (b.phi j).dst=(b.phi j).dst→∀y,¬YbD m (b.phi j) y)∧∀j,j<k→isCp (b.inst j)=true→m (b.inst j).dst≠(b.inst j).dst)) (fun _ i _=>b.insts.length-(intOf i).toNat)
    case atStart=>exact⟨0,ch,m',r',rfl,rfl,Nz _,HLR.out,HRR.out,HXX.out,HBB.out,fun e=>⟨HNP.out e,fun j hj=>ZO⟩⟩
    case round=>as_aux_lemma=>
     clear HNP HLR HRR HXX HBB hk hlt;obtain⟨k,ch,m',r',rfl,rfl,hk,hL,hr,hx,hB,hN⟩:=hrel
     by_cases hlt:k<b.insts.length
     · as_aux_lemma=>
       have hWr:Below W.heap.size W wr:=hW.trans (hB.mono hgW);obtain⟨bp,op,A5,c5,rfl,hbp,hp0,hp1,hp2,hp3,l5,k5,r5⟩:=r4.inst hWr hlt;have him:b.inst k∈b.insts:=Ybe hlt;have HLR:=Lh hL;have HRR:=Lh hr;have HXX:=Lh hx;have HBB:=Lh hB;have HNN:=Lh hN;have hll:=hL.f.len;have hxl:=hx.lt;have q2:=hx.cell 2;simp at q2;have hgr:g<wr.heap.size:=hr.fo.1;unfold Len at l5
       by_cases hcp:isCp (b.inst k)=true
       · obtain⟨hdv,hav⟩:=HH.out.g.cp b hb _ him hcp
         have hal:=HH.out.g.one b hb _ him hcp;have ho1:(b.inst k).op=1:=of_decide_eq_true hcp;have HCP:=Lh hcp;obtain⟨x,hx1⟩:∃x:Nat,(b.inst k).dst=x:=⟨(b.inst k).dst.toNat,by have:=hdv.1;omega⟩;have HX1:=Lh hx1;rw[hx1]at hdv hp1;rw[ho1]at hp0;obtain⟨f0,f1,f2,f3⟩:=YdI hr hll hdv;have HFX:=Lh (fun h=>(hL.f.fix hL.c (HH.out.g.cp b hb _ him hcp).1).2 h);have HLC:=Lh (fun(hf:ith r' (b.inst k).dst.toNat=(b.inst k).dst)=>hL.copy HH.out hb him hcp hf);rw[hx1,Int.toNat_natCast]at HFX HLC;clear hL hr hx hB hN ho1 hx1 hcp
         by_cases hf:ith r' x=(x:Int)
         · as_aux_lemma=>
           have d0:(ith r' x==(x:Int))=true:=by rw[beq_iff_eq];exact hf
           have HLQ:=Lh (HLC.out hf);have hxn:x<r'.length:=by rw[hll];omega
           obtain⟨bA,oA,rfl,hbA,hcA⟩:=r5.int hWr (i:=0) ZO;rw[Nat.add_zero]at hcA;have HRO:=Lh (fun(w':World) (h:Below wr.heap.size wr w')=>YeT (c:=c) HLR.out.f (HRR.out.below h).fo hav);rw[hal]at hp2;generalize ith (b.inst k).args 0=a at *;generalize m' a=y at *;generalize (b.inst k).num=nu at *;clear hf hav HFX HLC HNN;go_wp2_with fail
           go_quiet (fail)
           go_wp2_with fail;generalize hwq:(wr.alloc (.cells #[.int .i64 1,.int .i64 (x:Int),.slice (some ⟨bA,oA,none⟩) 1 c5,.int .i64 nu] 67)).drewN nq=wq;have hbq:Below wr.heap.size wr wq:=by rw[← hwq];exact YQ ((Br _ _).alloc (Nr _) _) _
           have hbx:BoxAt wq wr.heap.size #[.int .i64 1,.int .i64 (x:Int),.slice (some ⟨bA,oA,none⟩) 1 c5,.int .i64 nu] 67:=by rw[← hwq];exact(BoxAt.new _ _ _).drewN _
           have t1:=hbx.cell 1;have t2:=hbx.cell 2;have tl:=hbx.lt;simp at t1 t2;have tA:=(hbq.cell (p:=⟨bA,oA,none⟩) hbA).trans hcA;have tAl:bA<wq.heap.size:=Nt hbA hbq.size;clear hwq hcA hp0 hp1 hp2 hp3 f0 f1;obtain⟨S0,hS0⟩:∃S0:World→Prop,S0=fun w'=>w'.cell? ⟨wr.heap.size,1,none⟩=some (.int .i64 (x:Int))∧w'.cell? ⟨wr.heap.size,2,none⟩=some (.slice (some ⟨bA,oA,none⟩) 1 c5)∧w'.cell? ⟨bA,oA,none⟩=some (.int .i64 a)∧Below wq.heap.size wq w'∧wr.heap.size<w'.heap.size:=⟨_,rfl⟩
           have HS0:=Lh hS0;clear hS0;have k0:=fun xw=>(WS.at HS0 xw).1
           have k1:=fun xw=>(WS.at HS0 xw).2.1
           have k2:=fun xw=>(WS.at HS0 xw).2.2.1
           have k3:=fun xw=>(WS.at HS0 xw).2.2.2.1
           have k4:=fun xw=>(WS.at HS0 xw).2.2.2.2
           refine Ybz (S:=S0) [10,11] ZK ?hS (fun hSc hcl=>?_)
           case hS=>
            rw[HS0.out];exact⟨ZI,ZI,ZI,BL,ZJ⟩
           have hne0:Nonempty (WS S0):=⟨⟨_,hSc⟩⟩;have hneT:Nonempty (WS (fun _=>True)):=match hne0 with|⟨x⟩=>⟨⟨x.w,trivial⟩⟩
           refine Ya1 [(0,0),(1,0),(2,0),(3,0),(4,0),(5,0),(6,0),(7,0),(8,1),(9,0)] 2 rfl ZK (fun _ _ _ _ _ h=>h) hSc hcl ?_
           all_goals
            (try simp only[List.map_cons,List.map_nil,Ld,Le])
            repeat
             first
             |((with_reducible refine Ya2 ?_ ?_);exact rfl;dsimp only;go_big_quiet_step (fail);(try with_reducible refine wpQuiet_nil ?_);(try dsimp only))
             |((with_reducible refine Ya4 ?_ ?_);exact rfl;dsimp only;go_big_quiet_step (fail);(try with_reducible refine wpQuiet_nil ?_);(try dsimp only))
             |((with_reducible refine Ya3 ?_ ?_ (fun K hK=>?_))
               exact rfl;exact rfl;dsimp only;go_simp;(try go_wp2_with(go_at_call 54;refine(HRO.out _ (hbq.trans (Below.mono BL hbq.size))).mono ?_;rintro e w9 ⟨rfl,hb9⟩;obtain⟨hc9,hf9⟩:=Ya hb9;have hz9:=hb9.size;(try simp at hz9)));refine hK.out _ _ ?hS (fun hSc=>?_)
               case hS=>
                first
                |exact hSc
                |(rw[HS0.out]at hSc ⊢;obtain⟨p0,p1,p2,p3,p4⟩:=hSc;exact⟨ZC0,ZC1,ZC2,(by first|exact p3.trans (hb9.mono (by have:=p3.size;first|omega|(simp at this ⊢;omega)))|exact BL),(by first|exact Nt p4 hb9.size|exact ZT)⟩)
               clear hK K)
            (try(refine Ya5 ?_;intro hSc hcl))
           all_goals
            refine YbA [10,11] rfl ZK ?_;simp only[List.map_cons,List.map_nil,Ld,Le];rw[HS0.out]at hSc;obtain⟨p0,p1,p2,p3,p4⟩:=hSc;clear hne0 hneT hcl HS0 k0 k1 k2 k3 k4;have hrw:=(HRR.out.below hbq).below p3;obtain⟨g0,g1,g2,g3⟩:=YdI hrw hll hdv;go_wp2;go_roundw
            (case rel=>exact⟨k+1,true,_,_,rfl,ZN,ZO,HLQ.out,hrw.set hxn _,((HXX.out.below hbq HXX.out.lt).below p3 (HXX.out.below hbq HXX.out.lt).lt).other ZX _,(HBB.out.trans ((hbq.trans (p3.mono hbq.size)).mono (Nat.le_of_lt hgr))).setCell (Nr _) _,fun e=>by cases e⟩)
            (case measure=>simp[intOf];omega)
         · as_aux_lemma=>
           have d0:(ith r' x==(x:Int))=false:=by rw[beq_eq_false_iff_ne];exact hf
           have HNT:=Lh (fun(e:ch=false) (j:Nat) (hj:j<k+1) (hc:isCp (b.inst j)=true)=>show m (b.inst j).dst≠(b.inst j).dst from by
            by_cases e2:j=k
            · subst e2
              rw[← (HLR.out.no e).1,HX1.out];exact fun h=>hf (HFX.out h)
            · exact(HNN.out e).2 j ZO hc)
           clear hf;go_wp2_with fail
           go_quiet (fail)
           go_wp2_with fail;go_roundw
           case rel=>exact⟨k+1,ch,m',r',rfl,ZN,ZO,HLR.out,(HRR.out.below ((Br _ _).alloc (Nr _) _)).below (YQ (Br _ _) _),(HXX.out.alloc _).drewN _,YQ (HBB.out.alloc ZO _) _,fun e=>⟨(HNN.out e).1,HNT.out e⟩⟩
           case measure=>simp[intOf];omega
       · as_aux_lemma=>
         have d0:((b.inst k).op==1)=false:=by
          rw[beq_eq_false_iff_ne];exact fun e=>hcp (decide_eq_true e)
         have HNT:=Lh (fun(e:ch=false) (j:Nat) (hj:j<k+1) (hc:isCp (b.inst j)=true)=>show m (b.inst j).dst≠(b.inst j).dst from by
          by_cases e2:j=k
          · subst e2
            exact absurd hc hcp
          · exact(HNN.out e).2 j ZO hc)
         clear hL hr hx hB hN hcp;go_wp2_with fail
         go_quiet (fail)
         go_wp2_with fail;go_roundw
         case rel=>exact⟨k+1,ch,m',r',rfl,ZN,ZO,HLR.out,(HRR.out.below ((Br _ _).alloc (Nr _) _)).below (YQ (Br _ _) _),(HXX.out.alloc _).drewN _,YQ (HBB.out.alloc ZO _) _,fun e=>⟨(HNN.out e).1,HNT.out e⟩⟩
         case measure=>simp[intOf];omega
     · as_aux_lemma=>
       obtain rfl:k=b.insts.length:=by omega
       have HNN:=Lh hN;have HLR:=Lh hL;have HRR:=Lh hr;clear hN hL hr;go_wp2_with fail;go_ret;exact⟨ch,m',r',rfl,HLR.out,HRR.out,hB,HNN.out⟩
section
variable {F:PFunc} {rk:Int→Nat} {m m1 m2:Int→Int} {r r1 r2:List Int} {ch ag:Bool}
theorem Lrn.refl(hC:CpI F rk m)(hF:FoM F rk r m):Lrn F rk m r false m r:=⟨hC,hF,fun _=>⟨rfl,rfl⟩,fun h=>by cases h⟩
theorem Lrn.trans(h:Lrn F rk m r ag m1 r1)(h':Lrn F rk m1 r1 ch m2 r2):Lrn F rk m r (ch||ag) m2 r2:=by
 refine⟨h'.c,h'.f,fun e=>?_,fun e=>?_⟩
 · rw[Bool.or_eq_false_iff]at e
   obtain⟨e1,e2⟩:=h'.no e.1;obtain⟨e3,e4⟩:=h.no e.2;exact⟨e1.trans e3,e2.trans e4⟩
 · cases hc:ch
   · rw[hc,Bool.false_or]at e
     rw[(h'.no hc).1];exact h.yes e
   · have h1:=h'.yes hc
     cases ha:ag
     · rw[(h.no ha).1]at h1
       exact h1
     · have:=h.yes ha
       omega
def Shut(m:Int→Int)(b:PBlock):Prop:=(∀k,k<b.phis.length→m (b.phi k).dst=(b.phi k).dst→∀y,¬YbD m (b.phi k) y)∧∀k,k<b.insts.length→isCp (b.inst k)=true→m (b.inst k).dst≠(b.inst k).dst
theorem YkI(hC:CpI F rk m)(h:∀i,i<F.blocks.length→Shut m (F.blk i)):EqR F (fun u v=>m u=m v)∧∀b∈F.blocks,∀x∈b.insts,isCp x=true→m x.dst≠x.dst:=by
 have h1:∀b∈F.blocks,∀x∈b.insts,isCp x=true→m x.dst≠x.dst:=fun b hb x hx hc=>by
  obtain⟨i,hi,rfl⟩:=YaL hb;obtain⟨k,hk,rfl⟩:=YbI hx;exact(h i hi).2 k hk hc
 refine⟨hC.closed h1 fun b hb p hp e=>?_,h1⟩;obtain⟨i,hi,rfl⟩:=YaL hb;obtain⟨k,hk,rfl⟩:=YeQ hp;exact(h i hi).1 k hk e
theorem cpH(hT:Yc F=true)(hJ:YU F=true)(hA:∀k,k<F.blocks.length→k∈postO F)(hO:YL F=true)(hB:∀i,i<F.blocks.length→Yu F (tabB F) i=true):CpH F (rkV F):=
 ⟨rks hT hJ hA hO hB,rgC hT,Ykv hT hO,Ykw hO,Ykz hT hO⟩
end
def FoA(w:World)(B:Nat)(A:Option Addr)(r:List Int):Prop:=r=[]∨∃g,A=some ⟨g,0,none⟩∧B≤g∧FoB w g r
section
variable {w w':World} {B g c n:Nat} {A:Option Addr} {r:List Int} {F:PFunc}
theorem FoA.below(h:FoA w B A r)(hb:Below w.heap.size w w'):FoA w' B A r:=h.imp id fun⟨g,e,h1,h2⟩=>⟨g,e,h1,h2.below hb⟩
theorem FoA.of_own(h:w.ownsRow B 3 1 (.slice A n c) n (r.map (Value.int .i64))):FoA w B A r:=by
 have hl:r.length=n:=by simpa using h.1
 rcases h.2 with⟨-,rfl⟩|⟨g,cap,cur,e,hb,hg,-,-,-,ht⟩
 · exact .inl (List.eq_nil_of_length_eq_zero hl)
 · right
   simp only[Value.slice.injEq]at e;refine⟨g,e.1,hb,cur.toList.drop n,?_⟩;rw[Nat.mul_one]at ht;rw[← ht,List.take_append_drop];exact hg
theorem YkJ(hT:Yc F=true)(h0:F.vars.length=0){b:PBlock}(hb:b∈F.blocks):b.phis=[]∧b.insts=[]:=by
 obtain⟨i,hi,rfl⟩:=YaL hb;have hS:=Ya0 (Yv hT) hi;constructor
 · refine List.eq_nil_iff_forall_not_mem.2 fun p hp=>?_
   have:=((rgC hT).ph _ hb p hp).1;have h1:=this.1;have h2:=this.2;omega
 · refine List.eq_nil_iff_forall_not_mem.2 fun x hx=>?_
   have hB:=hS.2.1 x hx;obtain⟨h1,h2,h3⟩:=Yb0 hB;have hop:Yas x.op=true:=by
    unfold Yg at hB;simp only[Bool.and_eq_true]at hB;exact hB.1.1.1.1
   obtain⟨n,hn,hn2⟩:=Yij hop;have key:∀n:Nat,n<27→(YD (n:Int)).length≠0∨YX (n:Int)=true:=by decide +kernel
   rw[hn]at h2 h3;rcases key n hn2 with h4|h4
   · obtain⟨k,hk⟩:=YbI hx
     obtain⟨hk,rfl⟩:=hk;have:=(Ycy hT hi hk).2 0 ZO;omega
   · have:=Y2 (h3 h4)
     omega
end
set_option maxHeartbeats 2000000 in
theorem YkK{F:PFunc}{w:World}{v:Value}{b:PBlock}{c3 c4:Nat}{A3 A4:Option Addr}{x0 x3 x4 x5 x6:Value}(h1:b.phis=[])(h2:b.insts=[]) :
 Calls Tryz.prog 86 #[v,.agg #[x0,.slice A3 b.phis.length c3,.slice A4 b.insts.length c4,x3,x4,x5,x6]] w fun e w'=>e=.returned (.bool false)∧Below w.heap.size w w':=by
 have _:=F;rw[h1,h2];clear h1 h2;go_enter Tryz.func86,Tryz.ntmps86;go_wp2_with fail
 go_loopw[5,15] (fun f i wr=>f=.bool false∧i=.int .i64 0∧BoxAt wr w.heap.size #[x0,.slice A3 0 c3,.slice A4 0 c4,x3,x4,x5,x6] 62∧Below w.heap.size w wr) (fun _ _ _=>0)
 case atStart=>exact⟨rfl,rfl,BoxAt.new _ _ _,(Br _ _).alloc (Nr _) _⟩
 case round=>as_aux_lemma=>
  obtain⟨rfl,rfl,hx,hB⟩:=hrel;have q2:=hx.cell 2;have ql:=hx.lt;simp at q2;have HB:=Lh hB;clear hx hB;go_wp2_with fail;clear q2 ql
  go_loopw[5,45] (fun f i wr=>f=.bool false∧i=.int .i64 0∧Below w.heap.size w wr) (fun _ _ _=>0)
  case atStart=>exact⟨rfl,rfl,HB.out⟩
  case round=>as_aux_lemma=>
   clear HB;obtain⟨rfl,rfl,hB⟩:=hrel;go_wp2_with fail;go_ret;exact⟨rfl,hB⟩
theorem YkL{F:PFunc}{rk:Int→Nat}{m:Int→Int}{r:List Int}{W w:World}{B c c3 c4:Nat}{A A3 A4:Option Addr}{b:PBlock}{x0 x3 x4 x5 x6:Value}(H:CpH F rk)(hb:b∈F.blocks)(hL:Lrn F rk m r false m r)(hr:FoA w B A r)(hW:Below W.heap.size W w)(hB:W.heap.size≤B)(hBw:B≤w.heap.size)(hE:F.vars.length=0→b.phis=[]∧b.insts=[])
 (r3:Rd W.heap.size A3 b.phis 3 (PhiC W W.heap.size)) (r4:Rd W.heap.size A4 b.insts 4 (InstC W W.heap.size)) (l3:Len b.phis.length) (l4:Len b.insts.length) :
 Calls Tryz.prog 86 #[.slice A F.vars.length c,.agg #[x0,.slice A3 b.phis.length c3,.slice A4 b.insts.length c4,x3,x4,x5,x6]] w fun e w'=>∃ch m' r',e=.returned (.bool ch)∧Lrn F rk m r ch m' r'∧FoA w' B A r'∧Below B w w'∧(ch=false→Shut m b):=by
 rcases hr with rfl|⟨g,rfl,hg,hr⟩
 · have h0:F.vars.length=0:=hL.f.len.symm
   obtain⟨h1,h2⟩:=hE h0;refine(YkK (F:=F) h1 h2).mono ?_;rintro e w' ⟨rfl,hb'⟩;refine⟨false,m,[],rfl,hL,.inl rfl,hb'.mono hBw,fun _=>⟨fun k hk=>?_,fun k hk=>?_⟩⟩
   · rw[h1]at hk
     simp at hk
   · rw[h2]at hk
     simp at hk
 · refine(YkH H hb hL hr hW (Nat.le_trans hB hg) r3 r4 l3 l4).mono ?_
   rintro e w' ⟨ch,m',r',rfl,h1,h2,h3,h4⟩;exact⟨ch,m',r',rfl,h1,.inr ⟨g,rfl,hg,h2⟩,h3.mono hg,h4⟩
theorem YkM{F:PFunc}{m:Int→Int}:YbS F m≤F.vars.length:=by
 unfold YbS;exact Nat.le_trans (List.length_filter_le _ _) ZS
def Ycb(k:Nat):List Int:=(List.range k).map fun(i:Nat)=>(i:Int)
theorem YgC{k:Nat}:Ycb (k+1)=Ycb k++[(k:Int)]:=by
 unfold Ycb;rw[List.range_succ,List.map_append];rfl
structure YcD (F:PFunc) (m:Int→Int) (r:List Int):Prop where
 c:CpI F (rkV F) m
 f:FoM F (rkV F) r m
 e:EqR F (fun u v=>m u=m v)
 n:∀b∈F.blocks,∀x∈b.insts,isCp x=true→m x.dst≠x.dst
def YkN(F:PFunc)(w w':World)(e:Ending):Prop:=∃A c m r,e=.returned (.slice A F.vars.length c)∧FoA w' (w.heap.size+1) A r∧YcD F m r
set_option maxHeartbeats 8000000 in
theorem YgD{W w:World}{fv:Value}{F:PFunc}(hF:FnV W W.heap.size fv F)(hW:Below W.heap.size W w)(H:CpH F (rkV F))(hT:Yc F=true)(n1:F.vars.length≤1000) :
 Calls Tryz.prog 52 #[fv] w fun e w'=>YkN F w w' e∧Below w.heap.size w w':=by
 have hws:=hW.size;obtain⟨A0,c0,A1,c1,A2,c2,rfl,l0,l1,l2,k0,k1,k2,r0,r1,r2⟩:=id hF.open_;unfold Len at l0 l1 l2;have HR2:=Lh r2;have HH:=Lh H;have HT:=Lh hT;obtain⟨n2,n3⟩:=Yaa (Yv hT);clear hF H hT r0 r1 r2;have hb0:=(Br w.heap.size w).alloc (Nr _) (.cells #[.slice A0 F.vars.length c0,.slice A1 F.params.length c1,.slice A2 F.blocks.length c2] 26);have hx0:=BoxAt.new w #[.slice A0 F.vars.length c0,.slice A1 F.params.length c1,.slice A2 F.blocks.length c2] 26;obtain⟨W1,hW1⟩:∃W1:World,W1=w.alloc (.cells #[.slice A0 F.vars.length c0,.slice A1 F.params.length c1,.slice A2 F.blocks.length c2] 26):=⟨_,rfl⟩;have hs1:W1.heap.size=w.heap.size+1:=by rw[hW1];simp
 rw[← hW1]at hb0 hx0;have q0:=hx0.cell 0;have ql:=hx0.lt;simp at q0;go_enter Tryz.func52,Tryz.ntmps52
 go_upto_region 1 with fail
 go_loud (rw[← hW1])
 clear hW1;go_wp2_with fail
 go_loopw[3,11] (fun v i wr=>∃k:Nat,i=.int .i64 k∧k≤F.vars.length∧wr.ownsRow (w.heap.size+1) 3 1 v k ((Ycb k).map (Value.int .i64))∧Below W1.heap.size W1 wr) (fun _ i _=>F.vars.length-(intOf i).toNat)
 case atStart=>exact⟨0,rfl,Nz _,World.ownsRow_nil _ _ _ _,Br _ _⟩
 case round=>as_aux_lemma=>
  clear q0 ql;obtain⟨k,rfl,hk,hown,hb⟩:=hrel;obtain⟨Av,cv,rfl⟩:=Yh hown;have hs:=hb.size
  by_cases hlt:k<F.vars.length
  · as_aux_lemma=>
    have HBB:=Lh hb;clear hb;go_wp2_with(at_builtin;refine Yep _ rfl _ _ 92 rfl (w.heap.size+1) 3 8 Tryz.underlying92 Tryz.info3 rfl _ _ _ rfl hown _ rfl (.int .i64 (k:Int)) (by rfl) rfl ZO ZD ZO ?_;intro v' w8 hown8 hg8 hfr8;obtain⟨A8,c8,hv8⟩:=Yh hown8;subst hv8);go_roundw
    case rel=>exact⟨k+1,ZN,ZO,by rw[YgC,List.map_append];exact hown8,(HBB.out.alloc HBB.out.size _).grown hg8 (by have:=HBB.out.size;simp;omega) (fun j hj=>by have:=(hown.lt j hj).1;omega)⟩
    case measure=>simp[intOf];omega
  · as_aux_lemma=>
    obtain rfl:k=F.vars.length:=by omega
    have hfo:FoA wr (w.heap.size+1) Av (Ycb F.vars.length):=FoA.of_own hown;have hx:=hx0.below hb ZO;have HBB:=Lh hb;clear hown hb hx0;go_wp2_with fail
    go_loopg[5] (F.vars.length+1) (fun gk v5 wr=>∃(ag:Bool) (m:Int→Int) (r:List Int),v5=.bool ag∧Hid (Lrn F (rkV F) m r false m r∧YbS F m+ag.toNat≤gk∧(ag=false→∀i,i<F.blocks.length→Shut m (F.blk i)))∧FoA wr (w.heap.size+1) Av r∧BoxAt wr w.heap.size #[.slice A0 F.vars.length c0,.slice A1 F.params.length c1,.slice A2 F.blocks.length c2] 26∧Below W1.heap.size W1 wr)
    case atStart=>exact⟨true,fun v=>v,Ycb F.vars.length,rfl,⟨Lrn.refl CpI.id_ FoM.id_,by have:=YkM (F:=F) (m:=fun v=>v);simp;omega,fun h=>by cases h⟩,hfo,hx,HBB.out⟩
    case round=>as_aux_lemma=>
     clear hfo hx HBB;obtain⟨ag,m,r,rfl,HD,hfo,hx,hb⟩:=hrel;have q2:=hx.cell 2;have ql:=hx.lt;simp at q2;cases ag
     · as_aux_lemma=>
       have hend:=YkI HD.out.1.c (HD.out.2.2 rfl);go_wp2_with fail;go_ret;exact⟨⟨Av,cv,m,r,rfl,hfo,HD.out.1.c,HD.out.1.f,hend.1,hend.2⟩,hb0.trans (hb.mono ZO)⟩
     · as_aux_lemma=>
       go_wp2_with fail;clear q2 ql;obtain⟨wu,rfl⟩:∃wu:World,wu=wr:=⟨_,rfl⟩
       go_loopw[5,23] (fun v5 i wr=>∃(k:Nat) (ch:Bool) (m':Int→Int) (r':List Int),i=.int .i64 k∧v5=.bool ch∧k≤F.blocks.length∧Hid (Lrn F (rkV F) m r ch m' r'∧(ch=false→∀i,i<k→Shut m (F.blk i)))∧FoA wr (w.heap.size+1) Av r'∧BoxAt wr w.heap.size #[.slice A0 F.vars.length c0,.slice A1 F.params.length c1,.slice A2 F.blocks.length c2] 26∧Below W1.heap.size W1 wr) (fun _ i _=>F.blocks.length-(intOf i).toNat)
       case atStart=>exact⟨0,false,m,r,rfl,rfl,Nz _,⟨HD.out.1,fun _ i hi=>ZO⟩,hfo,hx,hb⟩
       case round=>as_aux_lemma=>
        clear hfo hx hb;obtain⟨k,ch,m',r',rfl,rfl,hk,HM,hfo,hx,hb⟩:=hrel
        by_cases hlt:k<F.blocks.length
        · as_aux_lemma=>
          have hWr:Below W.heap.size W wr:=hW.trans ((hb0.trans (hb.mono ZO)).mono hws);obtain⟨bb,off,A3,c3,A4,c4,rfl,hbb,h0,h1,h2,h3,h4,h5,h6,hnm,l3,l4,k3,k4,r3,r4⟩:=HR2.out.blk hWr hlt;have hbm:=YG hlt;have hst:=HM.out.1;have hle:=fun(w':World) (h:Below wr.heap.size wr w')=>YkL (c:=cv) (c3:=c3) (c4:=c4) (x0:=.string (F.blk k).name) (x3:=.int .i64 (F.blk k).term.kind) (x4:=.int .i64 (F.blk k).term.var) (x5:=.int .i64 (F.blk k).term.t0) (x6:=.int .i64 (F.blk k).term.t1) HH.out hbm (Lrn.refl hst.c hst.f) (hfo.below h) (hWr.trans (h.mono hWr.size)) (B:=w.heap.size+1) ZO (by have:=hb.size;have:=h.size;omega) (fun h0=>YkJ HT.out h0 hbm) r3 r4 l3 l4
          have HLE:=Lh hle;have HX:=Lh hx;have HBB:=Lh hb;have hwr:=hb.size;clear hle hx hb hfo hst;have q2:=HX.out.cell 2;have ql:=HX.out.lt;simp at q2;unfold Len at l3 l4;obtain⟨W2,hW2⟩:∃W2:World,W2=wr.alloc (.cells #[.string (F.blk k).name,.slice A3 (F.blk k).phis.length c3,.slice A4 (F.blk k).insts.length c4,.int .i64 (F.blk k).term.kind,.int .i64 (F.blk k).term.var,.int .i64 (F.blk k).term.t0,.int .i64 (F.blk k).term.t1] 62):=⟨_,rfl⟩;have hb2:Below wr.heap.size wr W2:=by rw[hW2];exact(Br _ _).alloc (Nr _) _
          have x2:BoxAt W2 wr.heap.size #[.string (F.blk k).name,.slice A3 (F.blk k).phis.length c3,.slice A4 (F.blk k).insts.length c4,.int .i64 (F.blk k).term.kind,.int .i64 (F.blk k).term.var,.int .i64 (F.blk k).term.t0,.int .i64 (F.blk k).term.t1] 62:=by rw[hW2];exact BoxAt.new _ _ _
          go_upto_region 13 with fail
          go_loud (rw[← hW2])
          clear hW2 h0 h1 h2 h3 h4 h5 h6 q2;have p0:=x2.cell 0;have p1:=x2.cell 1;have p2:=x2.cell 2;have p3:=x2.cell 3;have p4:=x2.cell 4;have p5:=x2.cell 5;have p6:=x2.cell 6;have pl:=x2.lt;simp at p0 p1 p2 p3 p4 p5 p6;go_wp2_with fail;refine(HLE.out _ hb2).mono ?_;rintro e w3 ⟨ch2,m2,r2,rfl,hl2,hf2,hb3,hsh⟩
          have HR:=Lh (show Hid (Lrn F (rkV F) m r (ch2||ch) m2 r2∧((ch2||ch)=false→∀i,i<k+1→Shut m (F.blk i)))from⟨HM.out.1.trans hl2,fun e i hi=>by
           rw[Bool.or_eq_false_iff]at e
           by_cases e2:i=k
           · subst e2
             rw[← (HM.out.1.no e.2).1];exact hsh e.1
           · exact HM.out.2 e.2 i ZO⟩)
          have HX3:=Lh (HX.out.below ((hb2.mono ZO).trans (hb3.mono ZO)) (show w.heap.size<w.heap.size+1 from ZO));have HB3:=Lh (HBB.out.trans ((hb2.mono ZO).trans (hb3.mono ZO)));have HF3:=Lh hf2;clear hl2 hf2 hb3 hsh HM HX HBB p0 p1 p2 p3 p4 p5 p6 pl x2 hb2;cases ch2
          · as_aux_lemma=>
            go_wp2_with fail;go_roundw
            case rel=>exact⟨k+1,ch,m2,r2,ZN,rfl,ZO,by simpa using HR.out,HF3.out,HX3.out,HB3.out⟩
            case measure=>simp[intOf];omega
          · as_aux_lemma=>
            go_wp2_with fail;go_roundw
            case rel=>exact⟨k+1,true,m2,r2,ZN,rfl,ZO,by simpa using HR.out,HF3.out,HX3.out,HB3.out⟩
            case measure=>simp[intOf];omega
        · as_aux_lemma=>
          obtain rfl:k=F.blocks.length:=by omega
          have HX:=Lh hx;have HBB:=Lh hb;clear hx hb
          obtain⟨gk',rfl⟩:∃f,gk=f+1:=⟨gk-1,by
           have:=HD.out.2.1;simp at this
           omega⟩
          go_wp2_with fail
          go_roundg gk'
          case measure=>omega
          case rel=>
           refine⟨ch,m',r',rfl,⟨Lrn.refl HM.out.1.c HM.out.1.f,?_,fun e i hi=>?_⟩,hfo,HX.out,HBB.out⟩
           · have h1:=HD.out.2.1
             cases ch
             · rw[(HM.out.1.no rfl).1]
               simp at h1 ⊢;omega
             · have:=HM.out.1.yes rfl
               simp at h1 ⊢;omega
           · rw[(HM.out.1.no e).1]
             exact HM.out.2 e i hi
structure Sgl (F:PFunc):Prop where
 T:Yc F=true
 J:YU F=true
 A:∀k,k<F.blocks.length→k∈postO F
 O:YL F=true
 B:∀i,i<F.blocks.length→Yu F (tabB F) i=true
section
variable {F:PFunc} {rk:Int→Nat} {m:Int→Int} {u v z:Int} {b c i j x y:Nat} {p q at_:Int}
theorem Sgl.cpH(S:Sgl F):CpH F (rkV F):=Go.Proofs.YthhjlbflpjhahaaGreatDoor.cpH S.T S.J S.A S.O S.B
theorem Sgl.or(S:Sgl F)(h:i<F.blocks.length):i∈OR F:=List.mem_reverse.2 (S.A i h)
theorem Sgl.refl(S:Sgl F)(h:i<F.blocks.length):Y1 F i i:=⟨S.or h,S.or h,.inl rfl⟩
theorem Sgl.ahead_iff(S:Sgl F)(hv:inV F v)(h:Yo F v i p):Yl F (tabB F) v b at_=true↔(i=b∧p<at_)∨(i≠b∧Y1 F i b):=by
 unfold Yl;rw[YaT (Ybh S.O hv.1 hv.2) h];unfold Yaz;simp only;rw[if_neg ZO]
 by_cases e:i=b
 · rw[if_pos ZO,decide_eq_true_eq]
   exact⟨fun h=>.inl ⟨e,h⟩,fun h=>h.elim (fun h=>h.2) fun h=>absurd e h.1⟩
 · rw[if_neg ZO,Int.toNat_natCast,YdG]
   exact⟨fun h=>.inr ⟨e,h⟩,fun h=>h.elim (fun h=>absurd h.1 e) fun h=>h.2⟩
theorem YkO(h:∀i p,¬Yo F v i p):Yl F (tabB F) v b at_=true:=by
 unfold Yl;rw[YeD h];rfl
theorem Sgl.uniq(S:Sgl F)(hv:inV F v)(h:Yo F v i p)(h':Yo F v j q):i=j∧p=q:=by
 have h1:=YaT (Ybh S.O hv.1 hv.2) h;rw[YaT (Ybh S.O hv.1 hv.2) h',Prod.mk.injEq]at h1;exact⟨ZO,h1.2.symm⟩
theorem YgE(hC:CpI F rk m)(h:m u≠u):∃b p,Yo F u b p:=by
 obtain⟨B,hB,h⟩:=hC.made u h;obtain⟨b,hb,rfl⟩:=YaL hB;rcases h with⟨x,hx,-,e⟩|⟨p,hp,e⟩
 · obtain⟨k,hk,rfl⟩:=YbI hx
   exact⟨b,k,hb,.inr ⟨k,hk,rfl,e⟩⟩
 · exact⟨b,-1,hb,.inl ⟨rfl,p,hp,e⟩⟩
theorem YeU(hC:CpI F rk m)(h:∀i p,¬Yo F u i p):m u=u:=Classical.byContradiction fun e=>by
 obtain⟨b,p,h1⟩:=YgE hC e;exact h b p h1
theorem Sgl.maker(hC:CpI F rk m)(H:CpH F rk)(hu:inV F u)(hm:m u≠u)(h:Yo F u j p):(p=-1∧∃q∈(F.blk j).phis,q.dst=u∧∀a∈q.args,m a=m u)∨
 ∃k:Nat,p=k∧k<(F.blk j).insts.length∧isCp ((F.blk j).inst k)=true∧((F.blk j).inst k).dst=u∧inV F (ith ((F.blk j).inst k).args 0)∧m (ith ((F.blk j).inst k).args 0)=m u∧ith ((F.blk j).inst k).args 0∈((F.blk j).inst k).args:=by
 obtain⟨hj,⟨rfl,q,hq,rfl⟩|⟨k,hk,rfl,rfl⟩⟩:=h
 · exact .inl ⟨rfl,q,hq,rfl,fun a ha=>hC.dp _ (YG hj) q hq hm a ha⟩
 · right
   have hmem:=Ybe hk;have hcp:isCp ((F.blk j).inst k)=true:=by
    obtain⟨B,hB,⟨x,hx,hc,e⟩|⟨q,hq,e⟩⟩:=hC.made _ hm
    · rw[← H.i B hB x hx _ (YG hj) _ hmem (by rw[e];exact hu) e]
      exact hc
    · exact absurd e (H.ip _ (YG hj) _ hmem B hB q hq hu)
   have hl:=H.g.one _ (YG hj) _ hmem hcp;exact⟨k,rfl,hk,hcp,rfl,(H.g.cp _ (YG hj) _ hmem hcp).2,(hC.dc _ (YG hj) _ hmem hcp hm).symm,List.mem_of_getElem? (Yae ZO)⟩
theorem Sgl.inst_ahead(S:Sgl F)(hj:j<F.blocks.length){k:Nat}(hk:k<(F.blk j).insts.length){a:Int}(ha:a∈((F.blk j).inst k).args):Yl F (tabB F) a j k=true:=by
 have h1:=S.B j hj;unfold Yu at h1;simp only[Bool.and_eq_true]at h1;have h2:=List.all_eq_true.1 h1.1.2 k (List.mem_range.2 hk);unfold instBe at h2;exact List.all_eq_true.1 h2 _ ha
theorem Sgl.pair_ahead(S:Sgl F)(hj:j<F.blocks.length){f:PPhi}(hf:f∈(F.blk j).phis){n:Nat}(hn:n<f.args.length)(hx:ith f.froms n=(x:Int)):Yl F (tabB F) (ith f.args n) x ((F.blk x).insts.length:Int)=true:=by
 have h1:=S.B j hj;unfold Yu at h1;simp only[Bool.and_eq_true]at h1;have h2:=List.all_eq_true.1 h1.1.1 _ hf;unfold YaN at h2;have h3:=List.all_eq_true.1 h2 n (List.mem_range.2 hn);unfold pairOk at h3;rw[hx,Int.toNat_natCast]at h3;exact h3
theorem Sgl.phi_from(S:Sgl F)(hj:j<F.blocks.length){f:PPhi}(hf:f∈(F.blk j).phis)(hx:x∈PR F j):∃a∈f.args,Yl F (tabB F) a x ((F.blk x).insts.length:Int)=true:=by
 obtain⟨hxn,he⟩:=(Ybu S.T).1 hx;have hpm:=YeN S.T S.J hj hf;obtain⟨-,hlen,-,-⟩:=Ydc S.T hj hf;have hm:(x:Int)∈f.froms:=by
  rw[hpm.mem_iff];unfold Yd;exact List.mem_map.2 ⟨x,YbH.2 ⟨hxn,(Ybt S.T hxn).1 he⟩,rfl⟩
 obtain⟨n,hn,e⟩:=List.getElem_of_mem hm;have hn2:n<f.args.length:=by omega
 exact⟨_,List.mem_of_getElem? (Yae hn2),S.pair_ahead hj hf hn2 (by simp[ith,List.getD,hn,e])⟩
theorem Sgl.no_phi(S:Sgl F)(hj:0<F.blocks.length){f:PPhi}(hf:f∈(F.blk 0).phis):False:=by
 have hpm:=YeN S.T S.J hj hf;obtain⟨-,-,hl0,-⟩:=Ydc S.T hj hf;have:ith f.froms 0∈f.froms:=List.mem_of_getElem? (Yae ZO);rw[hpm.mem_iff]at this;unfold Yd at this;obtain⟨y,hy,-⟩:=List.mem_map.1 this;obtain⟨h1,h2⟩:=YbH.1 hy;rw[Ygy S.T h1]at h2;cases h2
theorem Sgl.tab_pred(S:Sgl F)(ht:Y1 F y b)(hne:y≠b)(hx:x∈PR F b):Y1 F y x:=by
 refine⟨ht.1,S.or ((Ybu S.T).1 hx).1,?_⟩
 by_cases e:y=x
 · exact .inl e
 · refine .inr fun hav=>?_
   rcases ht.2.2 with e2|e2
   · exact hne e2
   · exact e2 (hav.step hx fun e=>hne e.symm)
theorem YeV(ht:Y1 F y 0):y=0:=by
 rcases ht.2.2 with e|e
 · exact e
 · exact Classical.byContradiction fun h=>e (.start h)
theorem Sgl.anti(S:Sgl F)(hi:i<F.blocks.length)(hj:j<F.blocks.length)(h:Y1 F i j)(h':Y1 F j i):i=j:=Classical.byContradiction fun e=>by
 have h1:=YeO S.T S.A hj h e;have h2:=YeO S.T S.A hi h' fun x=>e x.symm
 omega
theorem YkP(h:Yad (fun x y=>x∈PR F y) c b)(S:Sgl F)(ht:Y1 F i b):Yad (fun x y=>x∈PR F y) c i:=by
 induction h with
 |start h=>
  rw[YeV ht];exact .start h
 |@step a b h1 h2 h3 ih=>
  by_cases e:i=b
  · rw[e]
    exact .step h1 h2 h3
  · exact ih (S.tab_pred ht e h2)
theorem Sgl.tab_trans(S:Sgl F)(h:Y1 F c i)(h':Y1 F i b):Y1 F c b:=by
 refine⟨h.1,h'.2.1,?_⟩
 by_cases e:c=i
 · rw[e];exact h'.2.2
 · refine .inr fun hav=>?_
   rcases h.2.2 with e2|e2
   · exact e e2
   · exact e2 (YkP hav S h')
theorem YgF(S:Sgl F)(hC:CpI F rk m)(hz:Yo F z c q){a:Int}(ha:inV F a)(hx:x<F.blocks.length)(hN:∀y u p,Y1 F y x→inV F u→Yo F u y p→m u≠z)(h:Yl F (tabB F) a x at_=true):m a≠z:=by
 by_cases hex:∃i p,Yo F a i p
 · obtain⟨i,p,hk⟩:=hex
   rcases(S.ahead_iff ha hk).1 h with⟨rfl,-⟩|⟨-,ht⟩
   · exact hN i a p (S.refl hx) ha hk
   · exact hN i a p ht ha hk
 · intro e
   rw[YeU hC fun i p h=>hex ⟨i,p,h⟩]at e;rw[← e]at hz;exact hex ⟨_,_,hz⟩
theorem YgG(S:Sgl F)(hC:CpI F rk m)(H:CpH F rk)(hz:Yo F z c q)(hjc:j≠c)(H1:∀f∈(F.blk j).phis,∃a∈f.args,m a≠z)(H2:∀y u p,Y1 F y j→y≠j→inV F u→Yo F u y p→m u≠z):∀(n:Nat) (u p:Int),p<n→inV F u→Yo F u j p→m u≠z:=by
 intro n
 induction n with
 |zero=>
  intro u p hp hu hk e;have hne:m u≠u:=fun e2=>hjc (S.uniq hu hk (by rw[← e2,e];exact hz)).1
  rcases Sgl.maker hC H hu hne hk with⟨-,f,hf,-,hall⟩|⟨k,rfl,-⟩
  · obtain⟨a,ha,h1⟩:=H1 f hf
    exact h1 ((hall a ha).trans e)
  · exact ZO
 |succ n ih=>
  intro u p hp hu hk e;have hne:m u≠u:=fun e2=>hjc (S.uniq hu hk (by rw[← e2,e];exact hz)).1
  rcases Sgl.maker hC H hu hne hk with⟨-,f,hf,-,hall⟩|⟨k,rfl,hkl,-,-,hav,hma,hmem⟩
  · obtain⟨a,ha,h1⟩:=H1 f hf
    exact h1 ((hall a ha).trans e)
  · have hah:=S.inst_ahead hk.1 hkl hmem
    by_cases hex:∃i p,Yo F (ith ((F.blk j).inst k).args 0) i p
    · obtain⟨i,p',hk'⟩:=hex
      rcases(S.ahead_iff hav hk').1 hah with⟨rfl,hlt⟩|⟨hne2,ht⟩
      · exact ih _ p' ZO hav hk' (hma.trans e)
      · exact H2 i _ p' ht hne2 hav hk' (hma.trans e)
    · have h1:=YeU hC fun i p h=>hex ⟨i,p,h⟩
      rw[h1]at hma;rw[hma,e]at hex;exact hex ⟨_,_,hz⟩
theorem YgH(S:Sgl F)(hC:CpI F rk m)(H:CpH F rk)(hz:Yo F z c q)(h:Yad (fun x y=>x∈PR F y) c j):j<F.blocks.length→∀y u p,Y1 F y j→inV F u→Yo F u y p→m u≠z:=by
 induction h with
 |start h0=>
  intro hj y u p ht hu hk;have hy:=YeV ht;subst hy;exact YgG S hC H hz (fun e=>h0 e.symm) (fun f hf=>(S.no_phi hj hf).elim) (fun y u p ht hne _ _=>absurd (YeV ht) hne) (p+1).toNat u p ZO hu hk
 |@step a b h1 h2 h3 ih=>
  intro hj y u p ht hu hk;obtain⟨han,-⟩:=(Ybu S.T).1 h2;have ih:=ih han
  by_cases e:y=b
  · subst e
    refine YgG S hC H hz h3 (fun f hf=>?_) (fun y2 u2 p2 ht2 hne hu2 hk2=>ih y2 u2 p2 (S.tab_pred ht2 hne h2) hu2 hk2) (p+1).toNat u p ZO hu hk;obtain⟨a',ha',hah⟩:=S.phi_from hj hf h2;exact⟨a',ha',YgF S hC hz ((H.g.ph _ (YG hj) f hf).2 a' ha') han ih hah⟩
  · exact ih y u p (S.tab_pred ht e h2) hu hk
theorem YgI(S:Sgl F)(hC:CpI F rk m)(H:CpH F rk)(hu:inV F u)(hk:Yo F u b p)(hz:Yo F (m u) c q):Y1 F c b:=by
 refine⟨S.or hz.1,S.or hk.1,?_⟩
 by_cases e:c=b
 · exact .inl e
 · exact .inr fun hav=>YgH S hC H hz hav hk.1 b u p (S.refl hk.1) hu hk rfl
theorem YkQ(S:Sgl F)(hC:CpI F rk m)(H:CpH F rk)(hz:Yo F z c q)(hzv:inV F z):∀(n:Nat) (u p:Int),p<n→inV F u→m u=z→u≠z→Yo F u c p→q<p:=by
 intro n;have hphi:∀(u:Int) (f:PPhi),f∈(F.blk c).phis→(∀a∈f.args,m a=z)→False:=fun u f hf hall=>by
  have hc0:c≠0:=fun e=>by
   subst e;exact S.no_phi hz.1 hf
  rcases Yc8 (YbG S.T) (S.A c hz.1)with h1|⟨x,hx,he,hlt⟩
  · exact hc0 h1
  · have hxn:=(YbG S.T).lt x hx
    have hl':YM F x<YM F c:=hlt;have hav:=Ygz S.T S.A hc0 _ x (Nr _) hxn ZO fun e=>by rw[e]at hl';omega
    obtain⟨a,ha,hah⟩:=S.phi_from hz.1 hf ((Ybu S.T).2 ⟨hxn,he⟩);exact YgF S hC hz ((H.g.ph _ (YG hz.1) f hf).2 a ha) hxn (YgH S hC H hz hav hxn) hah (hall a ha)
 induction n with
 |zero=>
  intro u p hp hu e hne hk;rcases Sgl.maker hC H hu (by rw[e];exact fun h=>hne h.symm) hk with⟨-,f,hf,-,hall⟩|⟨k,rfl,-⟩
  · exact(hphi u f hf fun a ha=>(hall a ha).trans e).elim
  · exact ZO
 |succ n ih=>
  intro u p hp hu e hne hk;rcases Sgl.maker hC H hu (by rw[e];exact fun h=>hne h.symm) hk with⟨-,f,hf,-,hall⟩|⟨k,rfl,hkl,-,-,hav,hma,hmem⟩
  · exact(hphi u f hf fun a ha=>(hall a ha).trans e).elim
  · have hah:=S.inst_ahead hk.1 hkl hmem
    have hma:=hma.trans e
    by_cases hex:∃i p,Yo F (ith ((F.blk c).inst k).args 0) i p
    · obtain⟨i,p',hk'⟩:=hex
      rcases(S.ahead_iff hav hk').1 hah with⟨rfl,hlt⟩|⟨hne2,ht⟩
      · by_cases e2:ith ((F.blk i).inst k).args 0=z
        · rw[e2]at hk'
          have:=(S.uniq hzv hk' hz).2;omega
        · have:=ih _ p' ZO hav hma e2 hk'
          omega
      · rw[← hma]at hz
        have h1:=YgI S hC H hav hk' hz;exact absurd (S.anti hk'.1 hk.1 ht h1) hne2
    · have h1:=YeU hC fun i p h=>hex ⟨i,p,h⟩
      rw[h1]at hma;rw[hma]at hex;exact absurd ⟨_,_,hz⟩ hex
theorem YkR(S:Sgl F)(hC:CpI F rk m)(H:CpH F rk)(hu:inV F u)(hm:m u≠u)(hk:Yo F u b p)(hz:Yo F (m u) c q):(c=b∧q<p)∨(c≠b∧Y1 F c b):=by
 by_cases e:c=b
 · subst e
   exact .inl ⟨rfl,YkQ S hC H hz (hC.rg u hu) (p+1).toNat u p ZO hu rfl (fun h=>hm h.symm) hk⟩
 · exact .inr ⟨e,YgI S hC H hu hk hz⟩
theorem YeW(S:Sgl F)(hC:CpI F rk m)(H:CpH F rk)(hu:inV F u)(h:Yl F (tabB F) u b at_=true):Yl F (tabB F) (m u) b at_=true:=by
 by_cases hm:m u=u
 · rw[hm];exact h
 · by_cases hex:∃c q,Yo F (m u) c q
   · obtain⟨c,q,hz⟩:=hex
     obtain⟨i,p,hk⟩:=YgE hC hm;have h1:=YkR S hC H hu hm hk hz;rw[S.ahead_iff (hC.rg u hu) hz];rcases(S.ahead_iff hu hk).1 h with⟨rfl,h2⟩|⟨h2,h3⟩
     · rcases h1 with⟨rfl,h4⟩|h4
       · exact .inl ⟨rfl,ZO⟩
       · exact .inr h4
     · rcases h1 with⟨rfl,h4⟩|⟨h4,h5⟩
       · exact .inr ⟨h2,h3⟩
       · refine .inr ⟨fun e=>?_,S.tab_trans h5 h3⟩
         subst e;exact h2 (S.anti hk.1 hz.1 h3 h5)
   · exact YkO fun i p h=>hex ⟨i,p,h⟩
end
end Go.Proofs.YthhjlbflpjhahaaGreatDoor
