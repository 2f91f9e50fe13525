/- Who makes a variable, and where. -/
import Derived.Test.YthhjlbflpjhahaaGreatDoorMkRowsN
import Derived.Test.YthhjlbflpjhahaaGreatDoorLeafQN
import Derived.Test.YthhjlbflpjhahaaGreatDoorWaysN
import Derived.Test.YthhjlbflpjhahaaGreatDoorJoinQN
import Derived.Test.YthhjlbflpjhahaaGreatDoorSchN
import Derived.Great.BuildSlice
import Derived.Deep.MidRow
import Derived.Deep.DeepCutAuto
import Derived.Deep.CutBlock
import Derived.Test.YthhjlbflpjhahaaGreatDoorGraphN
import Derived.Test.YthhjlbflpjhahaaGreatDoorSlcN
import Derived.Test.YthhjlbflpjhahaaGreatDoorTreePN
import Derived.Maps.AppendAt
import Derived.Test.YthhjlbflpjhahaaGreatDoorAboveN
namespace Go.Proofs.YthhjlbflpjhahaaGreatDoor
open Go.RowKit
set_option maxRecDepth 100000
theorem YjA{F:PFunc}{n i:Nat}(h:i<n){e:Ev}(he:e∈Yay F i):e∈evs F n:=by
 induction n with
 |zero=>omega
 |succ n ih=>
  rw[evs,List.mem_append]
  by_cases hi:i<n
  · exact .inl (ih hi)
  · obtain rfl:i=n:=by omega
    exact .inr he
section
variable {F:PFunc}
def Yo(F:PFunc)(v:Int)(i:Nat)(a:Int):Prop:=i<F.blocks.length∧((a=-1∧∃p∈(F.blk i).phis,p.dst=v)∨∃k:Nat,k<(F.blk i).insts.length∧a=k∧((F.blk i).inst k).dst=v)
theorem Yf8{v:Int}{i:Nat}{a:Int}:Yo F v i a↔(⟨v,i,a⟩:Ev)∈evF F:=by
 constructor
 · rintro⟨hi,h⟩
   refine YjA hi ?_;unfold Yay;rw[List.mem_append];rcases h with⟨rfl,p,hp,rfl⟩|⟨k,hk,rfl,rfl⟩
   · obtain⟨k,hk,rfl⟩:=List.getElem_of_mem hp
     exact .inl (List.mem_map.2 ⟨k,List.mem_range.2 hk,by simp[PBlock.phi,List.getD,hk]⟩)
   · exact .inr (List.mem_map.2 ⟨k,List.mem_range.2 hk,rfl⟩)
 · intro h
   have key:∀n,n≤F.blocks.length→(⟨v,i,a⟩:Ev)∈evs F n→i<n∧(⟨v,i,a⟩:Ev)∈Yay F i:=by
    intro n
    induction n with
    |zero=>intro _ h;cases h
    |succ n ih=>
     intro hn h;rw[evs,List.mem_append]at h;rcases h with h|h
     · have:=ih ZO h
       exact⟨ZO,this.2⟩
     · have hb:i=n:=by
        unfold Yay evPhi evIns at h;rw[List.mem_append,List.mem_map,List.mem_map]at h;rcases h with⟨k,-,h⟩|⟨k,-,h⟩
        · cases h;rfl
        · cases h;rfl
       rw[hb];rw[hb]at h;exact⟨ZO,h⟩
   obtain⟨h1,h2⟩:=key F.blocks.length (Nr _) h;refine⟨h1,?_⟩;unfold Yay evPhi evIns at h2;rw[List.mem_append,List.mem_map,List.mem_map]at h2;rcases h2 with⟨k,hk,h2⟩|⟨k,hk,h2⟩
   · cases h2
     exact .inl ⟨rfl,_,YaH (List.mem_range.1 hk),rfl⟩
   · cases h2
     exact .inr ⟨k,List.mem_range.1 hk,rfl,rfl⟩
theorem YjB{v:Int}{i:Nat}{a:Int}(h:Yo F v i a):((i:Int),a)∈mkOf (evF F) v:=List.mem_map.2 ⟨_,List.mem_filter.2 ⟨Yf8.1 h,ZS⟩,rfl⟩
theorem YaT{v:Int}{i:Nat}{a:Int}(h1:(mkOf (evF F) v).length≤1)(h:Yo F v i a):Yk F v=((i:Int),a):=by
 have hm:=YjB h;unfold Yk
 match mkOf (evF F) v,h1,hm with
 |[p],_,hm=>
  rw[List.mem_singleton]at hm;rw[hm,Yjt]
 |p::q::r,h1,_=>simp at h1
theorem YeD{v:Int}(h:∀i a,¬Yo F v i a):Yk F v=(-1,0):=by
 unfold Yk;have:mkOf (evF F) v=[]:=by
  unfold mkOf;rw[List.map_eq_nil_iff,List.filter_eq_nil_iff];intro e he hd;have hd:e.dst=v:=by simpa using hd
  exact h e.blk e.pos (Yf8.2 (by rw[← hd];exact he))
 rw[this,Yjs]
theorem Ybh(h:YL F=true){v:Int}(h0:0≤v)(h1:v<F.vars.length):(mkOf (evF F) v).length≤1:=by
 have:=List.all_eq_true.1 h v.toNat (List.mem_range.2 ZO);unfold onceAt at this;rw[Int.toNat_of_nonneg h0]at this;simp only[Bool.not_eq_true',Bool.or_eq_false_iff,decide_eq_false_iff_not]at this;omega
end
def up(b j:Nat):Nat:=if j<b then j else j+1
section
variable {F:PFunc} {a b i j x y n:Nat}
end
section
variable {F G G':PFunc} {a b i j x y k:Nat} {L L':List PInst} {T T':PTerm} {r v v':Nat→Nat}
end
def YbE(F:PFunc):Nat:=((List.range F.blocks.length).map fun i=>(F.blk i).insts.length).sum
section
variable {F G:PFunc} {a b i:Nat}
theorem YeE{f:Nat→Nat}:∀{l:List Nat},l.Nodup→b∈l→(l.map f).sum=((l.filter fun i=>decide (i≠b)).map f).sum+f b
 |[],_,h=>by simp at h
 |x::l,hn,h=>by
  obtain⟨h1,h2⟩:=List.nodup_cons.1 hn;rw[List.map_cons,List.sum_cons]
  by_cases e:x=b
  · subst e
    have h3:l.filter (fun i=>decide (i≠x))=l:=List.filter_eq_self.2 fun y hy=>by
     simp;intro e;exact h1 (e▸hy)
    rw[List.filter_cons_of_neg (p:=fun i=>decide (i≠x)) ZS,h3];omega
  · have ih:=YeE (f:=f) h2 ((List.mem_cons.1 h).resolve_left fun e2=>e e2.symm)
    rw[List.filter_cons_of_pos (p:=fun i=>decide (i≠b)) (by simpa using e),List.map_cons,List.sum_cons];omega
theorem Yf9(hi:i<F.blocks.length):(F.blk i).insts.length≤YbE F:=by
 have h:=YeE (b:=i) (f:=fun i=>(F.blk i).insts.length) (List.nodup_range (n:=F.blocks.length)) (List.mem_range.2 hi);unfold YbE;omega
end
def YbF(l:List Int)(v:Int):Nat:=(l.filter (·==v)).length
def Yc7(F:PFunc)(v:Int)(i:Nat):Nat:=YbF ((F.blk i).phis.map (·.dst)) v+YbF ((F.blk i).insts.map (·.dst)) v
section
variable {F:PFunc} {a b:Nat} {v:Int}
theorem Yga{l m:List Int}:YbF (l++m) v=YbF l v+YbF m v:=by unfold YbF;rw[List.filter_append,List.length_append]
theorem YjD{l:List Ev}:(mkOf l v).length=YbF (l.map (·.dst)) v:=by
 unfold mkOf YbF;rw[List.length_map,List.filter_map,List.length_map];rfl
theorem YjE{i:Nat}:(evPhi F i (F.blk i).phis.length).map (·.dst)=(F.blk i).phis.map (·.dst):=by
 unfold evPhi;rw[List.map_map];refine List.ext_getElem ZS fun k h1 h2=>?_
 have h3:k<(F.blk i).phis.length:=by simpa using h1
 simp[PBlock.phi,List.getD_eq_getElem?_getD,h3]
theorem YjF{i:Nat}:(evIns F i (F.blk i).insts.length).map (·.dst)=(F.blk i).insts.map (·.dst):=by
 unfold evIns;rw[List.map_map];refine List.ext_getElem ZS fun k h1 h2=>?_
 have h3:k<(F.blk i).insts.length:=by simpa using h1
 simp[PBlock.inst,List.getD_eq_getElem?_getD,h3]
theorem Ygb:∀m,(mkOf (evs F m) v).length=((List.range m).map (Yc7 F v)).sum
 |0=>rfl
 |m+1=>by
  have ih:=Ygb m;rw[YjD]at ih ⊢;rw[evs,List.map_append,Yga,ih,List.range_succ,List.map_append,List.sum_append];congr 1;unfold Yay;rw[List.map_append,Yga,YjE,YjF];simp[Yc7]
end
section
variable {F:PFunc} {a b i:Nat}
def YM(F:PFunc)(x:Nat):Nat:=pl F.blocks.length (postO F).reverse x
end
section
variable {F:PFunc} {i k:Nat} {x:PPhi}
theorem Ykt(h:Yc F=true)(hi:i<F.blocks.length):blkT F (F.blk i)=true:=by
 unfold Yc at h;rw[Bool.and_eq_true,List.all_eq_true]at h;exact h.2 _ (YG hi)
end
section
variable {F:PFunc} {i j k:Nat} {x:PPhi}
end
section
variable {F:PFunc} {i j k:Nat} {x:PPhi}
theorem YeN(hT:Yc F=true)(hJ:YU F=true)(hi:i<F.blocks.length)(hx:x∈(F.blk i).phis):x.froms.Perm (Yd (Yt F i F.blocks.length)):=by
 unfold YU at hJ;rw[List.all_eq_true]at hJ;have h:=List.all_eq_true.1 (hJ i (by simpa using hi)) x hx;rw[YaU,decide_eq_true_iff,show(Ya7 F).getD i []=Yd (Yt F i F.blocks.length)from YdD hT hi _ (Nr _),Ygw (Ygv (YdH _))]at h;exact h
theorem Ygy(hT:Yc F=true)(hj:j<F.blocks.length):leads (F.blk j).term ((0:Nat):Int)=false:=by
 have hb:=Ykt hT hj;unfold blkT at hb;rw[Bool.and_eq_true]at hb;have ht:=hb.2;unfold Yah at ht;unfold leads;rw[decide_eq_false_iff_not];split at ht
 · rename_i h0
   rw[bne_iff_ne]at ht;rintro(h|h)
   · exact ht h.2
   · exact ZO
 · rename_i h0
   split at ht
   · rw[Bool.and_eq_true,Bool.and_eq_true,bne_iff_ne,bne_iff_ne]at ht
     rintro(h|h)
     · exact h0 h.1
     · exact h.2.elim ht.1.2 ht.2
   · rename_i h1
     rintro(h|h)
     · exact h0 h.1
     · exact h1 h.1
theorem Ydc(hT:Yc F=true)(hi:i<F.blocks.length)(hx:x∈(F.blk i).phis):Yw F x=true∧x.args.length=x.froms.length∧x.froms.length≠0∧∀k,k<x.froms.length→0≤ith x.froms k∧ith x.froms k<F.blocks.length:=by
 have hs:=(Ya0 (Yv hT) hi).1 x hx;have hs2:=hs;unfold Yw at hs2;simp only[Bool.and_eq_true,decide_eq_true_eq]at hs2;obtain⟨k,hk,rfl⟩:=List.getElem_of_mem hx;have e:(F.blk i).phi k=(F.blk i).phis[k]:=by rw[PBlock.phi,YC hk]
 refine⟨hs,hs2.1.1.1.2,by have h1:=hs2.1.1.1.1;have h2:=hs2.1.1.1.2;omega,fun j hj=>?_⟩;have:=YcC hT hi hk (j:=j) (by rw[e];exact hj)
 rwa [e]at this
end
theorem Tryz.info78:(Tryz.prog.info? 78).map (fun i=>(i.zero,i.size,i.bytes))=some (some (.agg #[.string ByteArray.empty,.int .i64 0]),2,24):=by kernel_rfl
def cellsV(x:YaE):List Value:=[.string x.name,.int .i64 x.ty]
theorem Yha{xs:List YaE}:(xs.map cellsV).flatten.length=xs.length*2:=by
 rw[List.length_flatten,List.map_map]
 induction xs with
 |nil=>rfl
 |cons x xs ih=>simp only[List.map_cons,List.sum_cons,List.length_cons,ih,Function.comp];simp[cellsV];omega
set_option maxHeartbeats 2000000 in
theorem YdK{B:Nat}{w:World}{A:Option Addr}{c:Nat}{xs:List YaE}(hr:Rd B A xs 2 (YbM w))(hl:xs.length≤1048576) :
 Calls Tryz.prog 70 #[.slice A xs.length c] w fun e w'=>∃v',e=.returned v'∧RRow w' w.heap.size 78 2 YbQ v' xs∧Below w.heap.size w w':=by
 have q22:∀(w:World) (a:Option Addr) (n c n' c':Nat),(binOp .eql 22 (.slice a n c) (.slice none n' c')).run Tryz.prog w=.ok (.bool a.isNone) w:=fun w a n c n' c'=>Lib.run_eql_slice_nil w _ _ a n c n' c' Tryz.underlying22
 cases A with
 |none=>
  have hx:xs=[]:=by
   cases xs with
   |nil=>rfl
   |cons x xs=>
    obtain⟨b,off,h,-⟩:=hr 0 x rfl;cases h
  subst hx;clear hr;go_enter Tryz.func70,Tryz.ntmps70;go_wp2;go_ret;exact⟨_,rfl,RRow.nil,Br _ _⟩
 |some a=>
  obtain⟨i0,hi,hz0,hz1,hz2⟩:=info_parts Tryz.info78;have hc:∀j u,(xs.map cellsV).flatten[j]?=some u→w.cell? (a.add j)=some u:=by
   intro j u hj;have hjl:=(List.getElem?_eq_some_iff.1 hj).1;rw[Yha]at hjl;obtain⟨i,k,hk,rfl⟩:∃i k,k<2∧j=i*2+k:=⟨j / 2,j%2,Nat.mod_lt _ ZD,ZO⟩;have hix:xs[i]?=some (xs[i]'(ZO)):=by simp
   obtain⟨b,off,ha,hb,hn,h0,h1⟩:=hr i _ hix;cases ha;rw[YcZ (sz:=2) (i:=i) (j:=k) (cs:=cellsV (xs[i]'(ZO))) (fun c hc=>by simp at hc;obtain⟨x,-,rfl⟩:=hc;rfl) (by rw[List.getElem?_map,hix];rfl) hk]at hj;rw[Addr.add_lit];rcases(show k=0∨k=1 from ZO)with rfl|rfl
   · rw[Nat.add_zero,h0];simpa[cellsV]using hj
   · rw[show off+(i*2+1)=off+i*2+1 from ZO,h1];simpa[cellsV]using hj
  have h1:∀u∈(xs.map cellsV).flatten,u.oneCell'=true:=by
   intro u hu;obtain⟨c,hc,hu⟩:=List.mem_flatten.1 hu;obtain⟨x,-,rfl⟩:=List.mem_map.1 hc;simp[cellsV]at hu;rcases hu with rfl|rfl<;>rfl
  have hlen:=Yha (xs:=xs);have hbv:∀(i:Nat) cs x,(xs.map cellsV)[i]?=some cs→xs[i]?=some x→cs.length=2∧YbQ cs x:=by
   intro i cs x h1 h2;obtain⟨b,off,ha,hb,hn,-⟩:=hr i x h2;simp[h2]at h1;subst h1;exact⟨rfl,hn,rfl⟩
  replace hbv:=Lh hbv;have HC:=Lh hc;clear hr hc;have HLC:=Lh (show(xs.map cellsV).length=xs.length from ZS);generalize (xs.map cellsV)=ch at *;generalize hcells:ch.flatten=cells at *;have HCL:=Lh hcells;clear hcells;go_enter Tryz.func70,Tryz.ntmps70;go_wp2_with(at_builtin;refine wpList_append_own _ rfl _ _ 22 rfl w.heap.size 78 i0 _ 2 24 Tryz.underlying22 hi hz0 hz1 hz2 rfl ZD _ _ _ rfl (World.ownsRow_made w #[] 0 (Nr _) (Nz _) ZS) a xs.length c cells rfl hlen ?qc2 h1 (by unfold maxLen;omega) ZO ZS ?_)
  case qc2=>
   intro j u hj;exact Lib.cell?_alloc_some _ (HC.out j u hj)
  intro v' w1 hown hgrow hnil;go_wp2;go_ret;refine⟨v',rfl,⟨ch,HLC.out,hbv.out,?_⟩,?_⟩
  · rw[HCL.out];simpa using hown
  · exact((Br _ w).alloc (Nr _) _).grown hgrow ZS (by intro k hk;simp[Value.ownBlock]at hk;omega)
theorem Rd.moveV{W w:World}{A:Option Addr}{xs:List YaE}(h:Rd W.heap.size A xs 2 (YbM W))(hw:Below W.heap.size W w):Rd w.heap.size A xs 2 (YbM w):=by
 intro i x hx;obtain⟨b,off,ha,hb,hn,h0,h1⟩:=h i x hx;exact⟨b,off,ha,Nt hb hw.size,hn,(hw.cell (p:=⟨b,off+i*2,none⟩) hb).trans h0,(hw.cell (p:=⟨b,off+i*2+1,none⟩) hb).trans h1⟩
theorem Rd.moveB{W w:World}{A:Option Addr}{xs:List Int}(h:Rd W.heap.size A xs 1 (Yi W))(hw:Below W.heap.size W w):Rd W.heap.size A xs 1 (Yi w):=by
 intro i x hx;obtain⟨b,off,ha,hb,hr⟩:=h i x hx;refine⟨b,off,ha,hb,?_⟩;unfold Yi at *;rw[hw.cell (p:=⟨b,off+i*1,none⟩) hb];exact hr
def NT(ts:List TypeId)(w:World)(b:Nat):Prop:=∃cs t,w.heap[b]?=some (.cells cs t (0,0))∧t∈ts
theorem YaM{w:World}{base e sz n:Nat}{v:Value}{xs:List Value}{ts:List TypeId}(h:w.ownsRow base e sz v n xs)(he:e∈ts):∀b,base≤b→v.ownBlock=some b→NT ts w b:=by
 intro b _ hb;rcases h.2 with⟨rfl,-⟩|⟨g,cap,cur,rfl,-,hh,-⟩
 · cases hb
 · cases hb
   exact⟨cur,e,hh,he⟩
structure KT (ts:List TypeId) (w w':World):Prop where
 size:w.heap.size≤w'.heap.size
 blk:∀b,NT ts w b→w'.heap[b]?=w.heap[b]?
section
variable {ts ts':List TypeId} {a w w':World}
theorem NT.lt{b:Nat}(h:NT ts w b):b<w.heap.size:=by
 obtain⟨cs,t,h,-⟩:=h;exact(Array.getElem?_eq_some_iff.1 h).1
theorem NT.mono{b:Nat}(h:NT ts w b)(hs:∀t∈ts,t∈ts'):NT ts' w b:=by
 obtain⟨cs,t,h,ht⟩:=h;exact⟨cs,t,h,hs t ht⟩
theorem NT.same{b:Nat}(h:NT ts w b)(hs:w'.heap[b]?=w.heap[b]?):NT ts w' b:=by
 obtain⟨cs,t,h,ht⟩:=h;exact⟨cs,t,hs.trans h,ht⟩
theorem KT.refl:KT ts w w:=⟨Nr _,fun _ _=>rfl⟩
theorem KT.trans(h:KT ts a w)(h':KT ts w w'):KT ts a w':=⟨Nat.le_trans h.size h'.size,fun b hb=>(h'.blk b (hb.same (h.blk b hb))).trans (h.blk b hb)⟩
theorem KT.of_below(h:Below w.heap.size w w'):KT ts w w':=⟨h.size,fun b hb=>h.block b hb.lt⟩
theorem KT.alloc(h:KT ts a w)(o:Obj):KT ts a (w.alloc o):=h.trans (KT.of_below ((Br _ _).alloc (Nr _) _))
theorem KT.setCell(h:KT ts a w){g j:Nat}{cs:Array Value}{t:TypeId}(hg:BoxAt w g cs t)(ht:t∉ts)(v:Value):KT ts a (w.setCell ⟨g,j,none⟩ v):=
 h.trans ⟨ZS,fun b hb=>Ycv (by
  rintro rfl;obtain⟨cs',t',h1,h2⟩:=hb;unfold BoxAt at hg;rw[hg]at h1;cases h1
  exact ht h2)⟩
theorem KT.grown(h:KT ts a w){base e sz n:Nat}{v:Value}{xs:List Value}(ho:w.ownsRow base e sz v n xs)(he:e∉ts)(hg:w.grownBy w' v.ownBlock):KT ts a w':=
 h.trans ⟨hg.size,fun b hb=>hg.block b hb.lt (fun e2=>by
  obtain⟨cs',t',h1,h2⟩:=hb;rcases ho.2 with⟨rfl,-⟩|⟨g,cap,cur,rfl,-,hh,-⟩
  · cases e2
  · cases e2
    rw[hh]at h1;cases h1
    exact he h2)⟩
theorem KT.tr(h:KT ts w w')(hs:∀t∈ts',t∈ts):Tr (NT ts' w) (NT ts' w') w w':=⟨h.size,fun b hb _=>⟨h.blk b (hb.mono hs),hb.same (h.blk b (hb.mono hs))⟩⟩
theorem RRow.kt{α:Type}{base sz:Nat}{e:TypeId}{C C':List Value→α→Prop}{v:Value}{xs:List α}(h:RRow w base e sz C v xs)(hk:KT ts w w')(he:e∈ts)(hC:∀cs x,C cs x→C' cs x):RRow w' base e sz C' v xs:=by
 obtain⟨cells,ho⟩:=h.own;exact h.turn (fun k hv=>hk.blk k (YaM ho he k (Yn ho hv).1 hv)) hC
end
theorem YbJ{ts:List TypeId}{w w':World}{base e sz n:Nat}{v:Value}{xs:List Value}(h:w.ownsRow base e sz v n xs)(hk:KT ts w w')(he:e∈ts):w'.ownsRow base e sz v n xs:=
 YcY h fun k hv=>hk.blk k (YaM h he k (Yn h hv).1 hv)
theorem Ylk{b:PBlock}{k:Nat}(h:k<b.phis.length):b.phis.take (k+1)=b.phis.take k++[b.phi k]:=by
 rw[List.take_add_one,PBlock.phi_get h];rfl
theorem Yll{b:PBlock}{k:Nat}(h:k<b.insts.length):b.insts.take (k+1)=b.insts.take k++[b.inst k]:=by
 rw[List.take_add_one,PBlock.inst_get h];rfl
theorem Tryz.info64:(Tryz.prog.info? 64).map (fun i=>(i.zero,i.size,i.bytes))=some (some (.agg #[.int .i64 0,.slice none 0 0,.slice none 0 0]),3,56):=by kernel_rfl
theorem Tryz.info67:(Tryz.prog.info? 67).map (fun i=>(i.zero,i.size,i.bytes))=some (some (.agg #[.int .i64 0,.int .i64 0,.slice none 0 0,.int .i64 0]),4,48):=by kernel_rfl
theorem Tryz.info62:(Tryz.prog.info? 62).map (fun i=>(i.zero,i.size,i.bytes))=some (some (.agg #[.string ByteArray.empty,.slice none 0 0,.slice none 0 0,.int .i64 0,.int .i64 0,.int .i64 0,.int .i64 0]),7,96):=by kernel_rfl
def CPh(w:World):List Value→PPhi→Prop:=CPhi w (NT [3] w)
def CIn(w:World):List Value→PInst→Prop:=CInst w (NT [3] w)
def CBO(w:World)(base:Nat)(cs:List Value)(x:PBlock×Value×Value):Prop:=
 cs=[.string x.1.name,x.2.1,x.2.2,.int .i64 x.1.term.kind,.int .i64 x.1.term.var,.int .i64 x.1.term.t0,.int .i64 x.1.term.t1]∧x.1.name.size≤maxLen∧
  RRow w base 64 3 (CPh w) x.2.1 x.1.phis∧RRow w base 67 4 (CIn w) x.2.2 x.1.insts
theorem CBO.rebase{w:World}{B base:Nat}{cs:List Value}{x:PBlock×Value×Value}(h:CBO w base cs x)(hB:B≤base):CBO w B cs x:=⟨h.1,h.2.1,h.2.2.1.rebase hB,h.2.2.2.rebase hB⟩
def Yfa(F:PFunc)(n:Nat)(A3:Option Addr)(c3:Nat)(A4:Option Addr)(c4:Nat):Array Value:=#[.string (F.blk n).name,.slice A3 (F.blk n).phis.length c3,.slice A4 (F.blk n).insts.length c4,.int .i64 (F.blk n).term.kind,.int .i64 (F.blk n).term.var,.int .i64 (F.blk n).term.t0,.int .i64 (F.blk n).term.t1]
theorem RRow.all_{α:Type}{w:World}{base sz:Nat}{e:TypeId}{C:List Value→α→Prop}{v:Value}{xs:List α}(h:RRow w base e sz C v xs):∀x∈xs,∃cs,C cs x:=by
 obtain⟨ch,hl,hc,-⟩:=h;intro x hx;obtain⟨i,hi,rfl⟩:=List.getElem_of_mem hx;exact⟨ch[i]'(ZO),(hc i _ _ (by simp[hl,hi]) (by simp[hi])).2⟩
def Apart(v v':Value):Prop:=∀k,v.ownBlock=some k→v'.ownBlock≠some k
theorem Apart.symm{v v':Value}(h:Apart v v'):Apart v' v:=fun k h1 h2=>h k h2 h1
def OwnI(w:World)(base:Nat)(v:Value)(xs:List Int):Prop:=w.ownsRow base 3 1 v xs.length (xs.map (Value.int .i64))∧xs.length≤1048576
def CPhS(w:World)(base:Nat)(cs:List Value)(x:PPhi×Value×Value):Prop:=cs=[.int .i64 x.1.dst,x.2.1,x.2.2]∧OwnI w base x.2.1 x.1.args∧OwnI w base x.2.2 x.1.froms
def CInS(w:World)(base:Nat)(cs:List Value)(x:PInst×Value):Prop:=cs=[.int .i64 x.1.op,.int .i64 x.1.dst,x.2,.int .i64 x.1.num]∧OwnI w base x.2 x.1.args
structure XBlk where
 b:PBlock
 vp:Value
 vi:Value
 es:List (PPhi×Value×Value)
 is:List (PInst×Value)
def rowsP(es:List (PPhi×Value×Value)):List Value:=es.flatMap fun e=>[e.2.1,e.2.2]
def rowsI(is:List (PInst×Value)):List Value:=is.map Prod.snd
def XBlk.rows(x:XBlk):List Value:=rowsP x.es++rowsI x.is
def XBlk.old(x:XBlk):PBlock×Value×Value:=(x.b,x.vp,x.vi)
structure CBS (w:World) (base:Nat) (cs:List Value) (x:XBlk):Prop where
 cs:cs=[.string x.b.name,x.vp,x.vi,.int .i64 x.b.term.kind,.int .i64 x.b.term.var,.int .i64 x.b.term.t0,.int .i64 x.b.term.t1]
 nm:x.b.name.size≤maxLen
 me:x.es.map Prod.fst=x.b.phis
 mi:x.is.map Prod.fst=x.b.insts
 hp:RRow w base 64 3 (CPhS w base) x.vp x.es
 hi:RRow w base 67 4 (CInS w base) x.vi x.is
 ap:x.rows.Pairwise Apart
structure YdL (x y:XBlk):Prop where
 vp:∀k l,x.vp.ownBlock=some k→y.vp.ownBlock=some l→k<l
 vi:∀k l,x.vi.ownBlock=some k→y.vi.ownBlock=some l→k<l
 rw:∀v∈x.rows,∀u∈y.rows,∀k l,v.ownBlock=some k→u.ownBlock=some l→k<l
section
variable {w w':World} {base B:Nat} {ts:List TypeId} {v:Value} {cs:List Value}
theorem OwnI.kt{xs:List Int}(h:OwnI w base v xs)(hk:KT ts w w')(hi:3∈ts):OwnI w' base v xs:=⟨YbJ h.1 hk hi,h.2⟩
theorem OwnI.rebase{xs:List Int}(h:OwnI w base v xs)(hB:B≤base):OwnI w B v xs:=⟨YbB h.1 hB,h.2⟩
theorem OwnI.dints{xs:List Int}(h:OwnI w base v xs):DInts w (NT [3] w) v xs:=DInts.of_own h.1 h.2 (YaM h.1 ZS)
theorem CPhS.kt{x:PPhi×Value×Value}(h:CPhS w base cs x)(hk:KT ts w w')(hi:3∈ts):CPhS w' base cs x:=⟨h.1,h.2.1.kt hk hi,h.2.2.kt hk hi⟩
theorem CInS.kt{x:PInst×Value}(h:CInS w base cs x)(hk:KT ts w w')(hi:3∈ts):CInS w' base cs x:=⟨h.1,h.2.kt hk hi⟩
theorem CPhS.rebase{x:PPhi×Value×Value}(h:CPhS w base cs x)(hB:B≤base):CPhS w B cs x:=⟨h.1,h.2.1.rebase hB,h.2.2.rebase hB⟩
theorem CInS.rebase{x:PInst×Value}(h:CInS w base cs x)(hB:B≤base):CInS w B cs x:=⟨h.1,h.2.rebase hB⟩
theorem RRow.map{α β:Type}{e sz:Nat}{C:List Value→α→Prop}{C':List Value→β→Prop}{xs:List α}(f:α→β)(h:RRow w base e sz C v xs)(hC:∀cs x,C cs x→C' cs (f x)):RRow w base e sz C' v (xs.map f):=by
 obtain⟨ch,hl,hc,hr⟩:=h;refine⟨ch,by rw[List.length_map];exact hl,fun i cs x h1 h2=>?_,by rw[List.length_map];exact hr⟩;rw[List.getElem?_map]at h2;obtain⟨y,hy,rfl⟩:=Option.map_eq_some_iff.1 h2;exact⟨(hc i cs y h1 hy).1,hC _ _ (hc i cs y h1 hy).2⟩
theorem RRow.imp{α:Type}{e sz:Nat}{C C':List Value→α→Prop}{xs:List α}(h:RRow w base e sz C v xs)(hC:∀cs x,C cs x→C' cs x):RRow w base e sz C' v xs:=h.turn (fun _ _=>rfl) hC
theorem CBS.kt{x:XBlk}(h:CBS w base cs x)(hk:KT ts w w')(hi:3∈ts)(hp:64∈ts)(hn:67∈ts):CBS w' base cs x:=
 ⟨h.cs,h.nm,h.me,h.mi,h.hp.kt hk hp fun _ _ h=>h.kt hk hi,h.hi.kt hk hn fun _ _ h=>h.kt hk hi,h.ap⟩
theorem CBS.rebase{x:XBlk}(h:CBS w base cs x)(hB:B≤base):CBS w B cs x:=
 ⟨h.cs,h.nm,h.me,h.mi,(h.hp.rebase hB).imp fun _ _ h=>h.rebase hB,(h.hi.rebase hB).imp fun _ _ h=>h.rebase hB,h.ap⟩
theorem CBS.old{x:XBlk}(h:CBS w base cs x):CBO w base cs x.old:=by
 refine⟨h.cs,h.nm,?_,?_⟩
 · show RRow w base 64 3 (CPh w) x.vp x.b.phis
   rw[← h.me];exact h.hp.map _ fun cs e h=>⟨_,_,h.1,h.2.1.dints,h.2.2.dints⟩
 · show RRow w base 67 4 (CIn w) x.vi x.b.insts
   rw[← h.mi];exact h.hi.map _ fun cs e h=>⟨_,h.1,h.2.dints⟩
theorem YdM{es:List (PPhi×Value×Value)}(h:RRow w base 64 3 (CPhS w base) v es):∀u∈rowsP es,∀k,u.ownBlock=some k→base≤k∧k<w.heap.size:=fun u hu k hk=>by
 obtain⟨e,he,hu⟩:=List.mem_flatMap.1 hu;obtain⟨cs,-,h1,h2⟩:=h.all_ e he;simp only[List.mem_cons,List.not_mem_nil,or_false]at hu;rcases hu with rfl|rfl
 · exact Yn h1.1 hk
 · exact Yn h2.1 hk
theorem Yfb{is:List (PInst×Value)}(h:RRow w base 67 4 (CInS w base) v is):∀u∈rowsI is,∀k,u.ownBlock=some k→base≤k∧k<w.heap.size:=fun u hu k hk=>by
 obtain⟨e,he,rfl⟩:=List.mem_map.1 hu;obtain⟨cs,-,h1⟩:=h.all_ e he;exact Yn h1.1 hk
theorem YcF{x:XBlk}(h:CBS w base cs x):∀u∈x.rows,∀k,u.ownBlock=some k→base≤k∧k<w.heap.size:=fun u hu k hk=>by
 rcases List.mem_append.1 hu with hu|hu
 · exact YdM h.hp u hu k hk
 · exact Yfb h.hi u hu k hk
theorem Ylm{es:List (PPhi×Value×Value)}{x:PPhi}{a f:Value}(h:(rowsP es).Pairwise Apart)(ha:∀u∈rowsP es,Apart u a)(hf:∀u∈rowsP es,Apart u f)(haf:Apart a f):(rowsP (es++[(x,a,f)])).Pairwise Apart:=by
 unfold rowsP at *;rw[List.flatMap_append];refine List.pairwise_append.2 ⟨h,by simpa using haf,fun u hu y hy=>?_⟩;simp at hy;rcases hy with rfl|rfl
 · exact ha u hu
 · exact hf u hu
theorem Yln{es:List (PPhi×Value×Value)}{is:List (PInst×Value)}{x:PInst}{a:Value}(h:(rowsP es++rowsI is).Pairwise Apart)(ha:∀u∈rowsP es++rowsI is,Apart u a):(rowsP es++rowsI (is++[(x,a)])).Pairwise Apart:=by
 have e:rowsP es++rowsI (is++[(x,a)])=(rowsP es++rowsI is)++[a]:=by simp[rowsI]
 rw[e];exact List.pairwise_append.2 ⟨h,List.pairwise_singleton _ _,fun u hu y hy=>by rw[List.mem_singleton]at hy;subst hy;exact ha u hu⟩
end
theorem Ylo(z0 z1 z2 z3 z4 z5 z6 a0 a1 a2 a3 a4 a5 a6:Value):Instr.fill (fun i=>some (i*7,7)) ((Array.range (1*7)).map ((Value.agg #[z0,z1,z2,z3,z4,z5,z6]).cells[·%(Value.agg #[z0,z1,z2,z3,z4,z5,z6]).cells.size]!)) [(0,.agg #[a0,a1,a2,a3,a4,a5,a6])]=some #[a0,a1,a2,a3,a4,a5,a6]:=by
 kernel_rfl
theorem Ylp{P:Program}{ops:Array Oper}{rest:List Oper}{o:Oper}{a:Act}{w:World}{Q:Exit→Act→World→Prop}(hg:o.guard=none)(t e:TypeId)(x:Operand)(ho:o.op=.buildSlice t 1 #[(0,x)]){by_:Nat}{z0 z1 z2 z3 z4 z5 z6 a0 a1 a2 a3 a4 a5 a6:Value}
 (hu:P.underlying t=some (.slice e)) (hinf:(P.info? e).map (fun i=>(i.zero,i.size,i.bytes))=some (some (.agg #[z0,z1,z2,z3,z4,z5,z6]),7,by_)) (hx:a.eval x=.agg #[a0,a1,a2,a3,a4,a5,a6])
 (h:wpList P ops Q rest (a.put o.dst (.slice (some ⟨w.heap.size,0,none⟩) 1 1)) (w.alloc (.cells #[a0,a1,a2,a3,a4,a5,a6] e))):wpList P ops Q (o::rest) a w:=by
 obtain⟨i,hi,hz,hsz,-⟩:=info_parts hinf;refine Go.wpList_buildSlice hg t e 1 #[(0,x)] ho #[a0,a1,a2,a3,a4,a5,a6] i _ hu hi hz (by rw[hsz];decide) (by rw[hsz];decide) ?_ h;rw[hsz];simp only[List.map_toArray,List.map_cons,List.map_nil,hx];exact Ylo z0 z1 z2 z3 z4 z5 z6 a0 a1 a2 a3 a4 a5 a6
section
variable {α:Type}
theorem DRow.chunks{w:World}{D:Nat→Prop}{sz:Nat}{C:List Value→α→Prop}{v:Value}{xs:List α}(h:DRow w D sz C v xs) :
 ∃A c,∃ch:List (List Value),v=.slice A xs.length c∧ch.length=xs.length∧(∀(i:Nat) cs x,ch[i]?=some cs→xs[i]?=some x→cs.length=sz∧C cs x)∧(xs≠[]→∃a,A=some a∧∀j u,ch.flatten[j]?=some u→w.cell? (a.add j)=some u):=by
 obtain⟨A,c,rfl,-,-,hr⟩:=h;have hx:∀i:Fin xs.length,∃cs,cs.length=sz∧(∃b off,A=some ⟨b,off,none⟩∧∀j u,cs[j]?=some u→w.cell? ⟨b,off+i*sz+j,none⟩=some u)∧C cs xs[i]:=fun i=>by
  obtain⟨b,off,cs,h1,-,-,h2,h3,h4⟩:=hr i xs[i] ZS;exact⟨cs,h2,⟨b,off,h1,h3⟩,h4⟩
 obtain⟨fc,hfc⟩:=Classical.skolem.1 hx;refine⟨A,c,List.ofFn fc,rfl,ZS,fun i cs x e1 e2=>?_,fun hne=>?_⟩
 · rw[List.getElem?_ofFn]at e1
   have hi:i<xs.length:=(List.getElem?_eq_some_iff.1 e2).1;rw[dif_pos hi]at e1;cases e1;have e3:xs[i]=x:=(List.getElem?_eq_some_iff.1 e2).2;subst e3;exact⟨(hfc ⟨i,hi⟩).1,(hfc ⟨i,hi⟩).2.2⟩
 · have hp:0<xs.length:=List.length_pos_iff.2 hne
   have hall:∀c∈List.ofFn fc,c.length=sz:=fun c hc=>by
    obtain⟨i,rfl⟩:=List.mem_ofFn.1 hc;exact(hfc i).1
   obtain⟨-,⟨b,off,rfl,-⟩,-⟩:=hfc ⟨0,hp⟩;refine⟨_,rfl,fun j u hj=>?_⟩;have hjl:=(List.getElem?_eq_some_iff.1 hj).1;have hfl:(List.ofFn fc).flatten.length=xs.length*sz:=by
    rw[List.length_flatten,List.eq_replicate_of_mem (l:=(List.ofFn fc).map List.length) (a:=sz) (fun y hy=>by
     obtain⟨c,hc,rfl⟩:=List.mem_map.1 hy
     exact hall c hc)]
    simp
   rw[hfl]at hjl;have hs0:0<sz:=by
    rcases Nat.eq_zero_or_pos sz with rfl|h
    · simp at hjl
    · exact h
   obtain⟨i,k,hk,rfl⟩:∃i k,k<sz∧j=i*sz+k:=⟨j / sz,j%sz,Nat.mod_lt _ hs0,by rw[Nat.mul_comm];exact(Nat.div_add_mod j sz).symm⟩;have hi:i<xs.length:=by
    rcases Nat.lt_or_ge i xs.length with h|h
    · exact h
    · have:=Nat.mul_le_mul_right sz h
      omega
   have hci:(List.ofFn fc)[i]?=some (fc ⟨i,hi⟩):=by rw[List.getElem?_ofFn,dif_pos hi]
   rw[YcZ hall hci hk]at hj;obtain⟨-,⟨b',off',e1,e⟩,-⟩:=hfc ⟨i,hi⟩;cases e1;rw[Addr.add_lit,show off+(i*sz+k)=off+i*sz+k from ZO];exact e k u hj
theorem Yhb{P:Program}{w:World}{base t ty:Nat}{e:TypeId}(sz bytes:Nat)(ht:P.underlying t=some (.slice e)){z:Value}(hinf:(P.info? e).map (fun i=>(i.zero,i.size,i.bytes))=some (some z,sz,bytes))(hz1:z.cells.size=sz)(hsz:0<sz)(hby:bytes≤64)
 {C:List Value→α→Prop} {D:Nat→Prop} {v u:Value} {xs ys:List α} (hR:RRow w base e sz C v xs) (hS:DRow w D sz C u ys) (hone:∀cs x,C cs x→∀y∈cs,y.oneCell'=true) (hn:xs.length+ys.length≤1048576) (hbase:base≤w.heap.size) :
 ∃A c w',(Builtin.append_ #[t,t] ty #[v,u]).run P w=.ok (.slice A (xs.length+ys.length) c) w'∧RRow w' base e sz C (.slice A (xs.length+ys.length) c) (xs++ys)∧w.grownBy w' v.ownBlock∧
  ((Value.slice A (xs.length+ys.length) c).ownBlock=v.ownBlock∨(Value.slice A (xs.length+ys.length) c).ownBlock=some w.heap.size):=by
 obtain⟨i,hi,hz,hisz,hb⟩:=info_parts hinf;obtain⟨B,cu,ch2,rfl,hl2,hc2,hrd⟩:=hS.chunks;obtain⟨ch,hl,hc,hr⟩:=hR
 by_cases h0:ys=[]
 · subst h0
   obtain⟨A,c,rfl⟩:=Yh hr;have hle:xs.length+0≤c:=by
    rcases hr.2 with⟨hv,h0⟩|⟨g,cap,cur,hv,-,-,hnc,-⟩
    · exact ZO
    · cases hv
      exact hnc
   refine⟨A,c,w,?_,⟨ch,by simpa using hl,by simpa using hc,by simpa using hr⟩,⟨rfl,rfl,rfl,Nr _,fun _ _ _=>rfl⟩,.inl rfl⟩;cases B with
   |none=>
    cases A with
    |none=>simp[Builtin.append_,run_underlying ht,sizeOf,typeInfo,hi,Builtin.lenOf,Builtin.firstCells]<;>(intro h;omega)
    |some b=>simp[Builtin.append_,run_underlying ht,sizeOf,typeInfo,hi,Builtin.lenOf,Builtin.firstCells,storeCells]<;>(intro h;omega)
   |some a=>
    have hf:=run_firstCells_some (P:=P) w i.size 0 a 0 cu [] ZS ZS;cases A with
    |none=>simp[Builtin.append_,run_underlying ht,sizeOf,typeInfo,hi,Builtin.lenOf,hf]<;>(intro h;omega)
    |some b=>simp[Builtin.append_,run_underlying ht,sizeOf,typeInfo,hi,Builtin.lenOf,hf,storeCells]<;>(intro h;omega)
 · obtain⟨a,rfl,hcell⟩:=hrd h0
   have hall:∀c∈ch2,c.length=sz:=fun cs hm=>by
    obtain⟨i,hi,rfl⟩:=List.getElem_of_mem hm;exact(hc2 i _ (ys[i]'(ZO)) (by simp[hi]) ZS).1
   have hfl:ch2.flatten.length=ys.length*sz:=by
    rw[List.length_flatten,List.eq_replicate_of_mem (l:=ch2.map List.length) (a:=sz) (fun y hy=>by
     obtain⟨c,hc,rfl⟩:=List.mem_map.1 hy
     exact hall c hc)]
    simp[hl2]
   have h1:∀u∈ch2.flatten,u.oneCell'=true:=fun u hu=>by
    obtain⟨cs,hcs,hu⟩:=List.mem_flatten.1 hu;obtain⟨i,hi,rfl⟩:=List.getElem_of_mem hcs;exact hone _ _ (hc2 i _ (ys[i]'(ZO)) (by simp[hi]) ZS).2 u hu
   have hbytes:(xs.length+ys.length)*bytes≤140737488355328:=by
    calc(xs.length+ys.length)*bytes≤1048576*64:=Nat.mul_le_mul hn hby
     _≤140737488355328:=by decide
   obtain⟨v',w',hr2,h2,h3,-,h4⟩:=run_append_own_at (P:=P) (w:=w) base t ty e i z sz bytes ht hi hz hisz hb hz1 hsz v xs.length ch.flatten hr a ys.length cu ch2.flatten hfl hcell h1 (by unfold maxLen;omega) hbytes hbase;obtain⟨A,c,rfl⟩:=Yh h2;refine⟨A,c,w',hr2,⟨ch++ch2,by simp[hl,hl2],fun i cs x e1 e2=>?_,by rw[List.length_append,List.flatten_append];exact h2⟩,h3,h4⟩
   by_cases hi:i<ch.length
   · rw[List.getElem?_append_left hi]at e1
     rw[List.getElem?_append_left ZO]at e2;exact hc i cs x e1 e2
   · rw[List.getElem?_append_right ZO]at e1 e2
     rw[hl]at e1;exact hc2 _ cs x e1 e2
end
theorem YaP(w:World)(o:Obj):Below w.heap.size w (w.alloc o):=(Br _ _).alloc (Nr _) _
theorem YmN{P:Program}{ops:Array Oper}{rest:List Oper}{o:Oper}{a:Act}{w w':World}{Q:Exit→Act→World→Prop}(hgd:o.guard=none)(s x:Operand)(t:TypeId)(ho:o.op=.call { callee:=.builtin .append,args:=#[s,x],argTypes:=#[t,t] }){u y v:Value}(hs:a.eval s=u)(hx:a.eval x=y)
 (hrun:(Builtin.append_ #[t,t] o.type #[u,y]).run P w=.ok v w') (h:wpList P ops Q rest (a.put o.dst v) w'):wpList P ops Q (o::rest) a w:=
 wpList_plain hgd fun _ hK=>Yct s x t ho hs hx hrun (hK _ _ h)
theorem Ylq{w:World}{base:Nat}{v:Value}{xs:List PPhi}(h:RRow w base 64 3 (CPh w) v xs)(hn:xs.length≤1048576):SPhis w w.heap.size v xs:=
 DRow.rd (h.done (D:=fun _=>True) hn (fun _ _ _=>trivial)) (fun _ h _=>h) fun b o cs x _ _ hc e=>by
  obtain⟨v1,v2,rfl,h1,h2⟩:=e;exact⟨hc 0 _ rfl,⟨v1,hc 1 _ rfl,h1.rd fun _ h _=>h⟩,v2,hc 2 _ rfl,h2.rd fun _ h _=>h⟩
theorem Ylr{w:World}{base:Nat}{v:Value}{xs:List PInst}(h:RRow w base 67 4 (CIn w) v xs)(hn:xs.length≤1048576):SInsts w w.heap.size v xs:=
 DRow.rd (h.done (D:=fun _=>True) hn (fun _ _ _=>trivial)) (fun _ h _=>h) fun b o cs x _ _ hc e=>by
  obtain⟨v1,rfl,h1⟩:=e;exact⟨hc 0 _ rfl,hc 1 _ rfl,⟨v1,hc 2 _ rfl,h1.rd fun _ h _=>h⟩,hc 3 _ rfl⟩
theorem Yls{w:World}{base:Nat}{v:Value}{ps:List (PBlock×Value×Value)}(h:RRow w base 62 7 (CBO w base) v ps)(hn:ps.length≤1048576)
 (hp:∀p∈ps,p.1.phis.length≤1048576∧p.1.insts.length≤1048576):SBlks w w.heap.size v (ps.map Prod.fst):=by
 obtain⟨A,c,rfl,hl,hc,hr⟩:=h.done (D:=fun _=>True) hn (fun _ _ _=>trivial);refine⟨A,c,by rw[List.length_map],by rw[List.length_map];exact hl,by rw[List.length_map];exact hc,fun i x hx=>?_⟩;rw[List.getElem?_map]at hx;obtain⟨p,hx2,rfl⟩:=Option.map_eq_some_iff.1 hx;obtain⟨b,off,cs,ha,-,hb,-,hcells,rfl,hz,h1,h2⟩:=hr i p hx2;have hm:=hp p (List.mem_of_getElem? hx2);exact⟨b,off,ha,hb,hz,hcells 0 _ rfl,⟨_,hcells 1 _ rfl,Ylq h1 hm.1⟩,⟨_,hcells 2 _ rfl,Ylr h2 hm.2⟩,hcells 3 _ rfl,hcells 4 _ rfl,hcells 5 _ rfl,hcells 6 _ rfl⟩
theorem Ylt{w:World}{base:Nat}{vv vp vb:Value}{F:PFunc}{ps:List (PBlock×Value×Value)}(hV:RRow w base 78 2 YbQ vv F.vars)(hP:w.ownsRow base 3 1 vp F.params.length (F.params.map (Value.int .i64)))
 (hR:RRow w base 62 7 (CBO w base) vb ps) (he:ps.map Prod.fst=F.blocks) (hB:Bnd F):FnV w w.heap.size (.agg #[vv,vp,vb]) F:=by
 refine⟨vv,vp,vb,rfl,DVars.rd (D:=fun _=>True) (hV.done (by have:=hB.vars;omega) (fun _ _ _=>trivial)) (fun _ h _=>h),DInts.rd (D:=fun _=>True) (DInts.of_own hP (by have:=hB.params;omega) (fun _ _ _=>trivial)) (fun _ h _=>h),?_⟩;rw[← he];refine Yls hR (by have:=hB.blocks;rw[← he,List.length_map]at this;omega) fun p hp=>?_
 have hm:p.1∈F.blocks:=by rw[← he];exact List.mem_map_of_mem hp
 have:=hB.parts _ hm;exact⟨ZO,ZO⟩
theorem RRow.cells{α:Type}{w:World}{base sz:Nat}{e:TypeId}{C:List Value→α→Prop}{v:Value}{xs:List α}(h:RRow w base e sz C v xs){i:Nat}(hi:i<xs.length) :
 ∃g cap cs,v=.slice (some ⟨g,0,none⟩) xs.length cap∧xs.length≤cap∧base≤g∧g<w.heap.size∧w.frozen? ⟨g,0,none⟩=false∧cs.length=sz∧(∀j u,cs[j]?=some u→w.cell? ⟨g,i*sz+j,none⟩=some u)∧C cs xs[i]:=by
 obtain⟨ch,hl,hc,hr⟩:=h;have hcs:∀c∈ch,c.length=sz:=fun cs hm=>by
  obtain⟨i,hi,rfl⟩:=List.getElem_of_mem hm;exact(hc i _ (xs[i]'(ZO)) (by simp[hi]) ZS).1
 have hch:ch[i]?=some (ch[i]'(ZO)):=by simp[hl,hi]
 have hcx:=hc i _ xs[i] hch (by simp[hi]);rcases hr.2 with⟨hv,h0⟩|⟨g,cap,cur,rfl,hb,hh,hnc,hcm,hsz,ht⟩
 · exact ZO
 · refine⟨g,cap,_,rfl,hnc,hb,(Array.getElem?_eq_some_iff.1 hh).1,World.ownsRow.frozenAt (hr) 0,hcx.1,fun j u hu=>?_,hcx.2⟩
   have hj:j<sz:=by rw[← hcx.1];exact(List.getElem?_eq_some_iff.1 hu).1
   rw[cell_of_row w g _ cur e (0,0) hh];have hf:=YcZ hcs hch hj;rw[hu,← ht,List.getElem?_take]at hf;split at hf
   · simpa using hf
   · cases hf
section
variable {F:PFunc} {a b i k x:Nat} {L:List Int}
end
section
variable {w w':World} {B:Nat} {v1 v2:Value} {xs ys:List Int} {x:Int} {N:Nat}
end
def CBw(cs:List Value)(x:PBlock×Value×Value):Prop:=
 cs=[.string x.1.name,x.2.1,x.2.2,.int .i64 x.1.term.kind,.int .i64 x.1.term.var,.int .i64 x.1.term.t0,.int .i64 x.1.term.t1]∧x.1.name.size≤maxLen
section
variable {w w':World} {base g:Nat} {v:Value} {ts:List TypeId}
theorem Ylu{e n sz:Nat}{xs:List Value}(ho:w.ownsRow base e sz v n xs)(he:e∉ts){b:Nat}(hb:NT ts w b):v.ownBlock≠some b:=by
 intro e2;obtain⟨cs',t',h1,h2⟩:=hb;rcases ho.2 with⟨rfl,-⟩|⟨g,cap,cur,rfl,-,hh,-⟩
 · cases e2
 · cases e2
   rw[hh]at h1;cases h1;exact he h2
theorem KT.of_kp{e n sz:Nat}{xs:List Value}(h:Kp (fun b=>v.ownBlock≠some b) w w')(ho:w.ownsRow base e sz v n xs)(he:e∉ts):KT ts w w':=
 ⟨h.size,fun b hb=>h.blk b (Ylu ho he hb) hb.lt⟩
theorem RRow.mem{α:Type}{sz e:Nat}{C C':List Value→α→Prop}{xs:List α}(h:RRow w base e sz C v xs)(hC:∀cs x,x∈xs→C cs x→C' cs x):RRow w base e sz C' v xs:=by
 obtain⟨ch,hl,hc,hr⟩:=h;exact⟨ch,hl,fun i cs x h1 h2=>⟨(hc i cs x h1 h2).1,hC _ _ (List.mem_of_getElem? h2) (hc i cs x h1 h2).2⟩,hr⟩
end
section
variable {F:PFunc} {wN wr w':World} {g9 i gb:Nat} {v0 v1 vbs vb:Value} {ps qs:List (PBlock×Value×Value)} {L:List PBlock}
end
section
variable {F:PFunc} {i k:Nat} {l:List PPhi}
end
def YbK{α:Type}(f:α→α)(m:Nat)(l:List α):List α:=(l.take m).map f++l.drop m
section
variable {α:Type} {f:α→α} {m:Nat} {l:List α}
theorem Ylv:YbK f 0 l=l:=rfl
theorem Ylw(h:m<l.length):(YbK f m l)[m]?=some l[m]:=by
 unfold YbK;rw[List.getElem?_append_right ZX];simp[List.length_take,Nat.min_eq_left (Nat.le_of_lt h),h]
theorem Ylx(h:m<l.length):(YbK f m l).set m (f l[m])=YbK f (m+1) l:=by
 unfold YbK;have h1:((l.take m).map f).length=m:=by simp;omega
 rw[List.set_append_right _ _ ZO,h1,Nat.sub_self,List.drop_eq_getElem_cons h,Lz,List.take_add_one,List.getElem?_eq_getElem h,List.map_append];simp
theorem Yly:YbK f l.length l=l.map f:=by simp[YbK]
end
theorem Yba{es:List (PPhi×Value×Value)}{e:PPhi×Value×Value}(h:e∈es):e.2.1∈rowsP es∧e.2.2∈rowsP es:=⟨List.mem_flatMap.2 ⟨e,h,ZS⟩,List.mem_flatMap.2 ⟨e,h,ZS⟩⟩
theorem Yfc:∀{es:List (PPhi×Value×Value)} {e e':PPhi×Value×Value},(rowsP es).Pairwise Apart→e∈es→e'∈es→Apart e.2.1 e'.2.2
 |[],e,e',_,h,_=>by simp at h
 |x::es,e,e',hp,h,h'=>by
  have hx:rowsP (x::es)=x.2.1::x.2.2::rowsP es:=rfl;rw[hx,List.pairwise_cons,List.pairwise_cons]at hp;rcases List.mem_cons.1 h with h1|h1
  · rcases List.mem_cons.1 h' with h2|h2
    · rw[h1,h2]
      exact hp.1 _ ZS
    · rw[h1]
      exact hp.1 _ (List.mem_cons_of_mem _ (Yba h2).2)
  · rcases List.mem_cons.1 h' with h2|h2
    · rw[h2]
      exact(hp.2.1 _ (Yba h1).1).symm
    · exact Yfc hp.2.2 h1 h2
section
variable {w w':World} {base:Nat} {D:Nat→Prop} {v:Value} {es:List (PPhi×Value×Value)}
end
theorem NT.two{w:World}{b s t:Nat}(h:NT [s] w b)(h':NT [t] w b):s=t:=by
 obtain⟨cs,x,h1,h2⟩:=h;obtain⟨cs',y,h3,h4⟩:=h';rw[h1]at h3;cases h3;simp at h2 h4;exact h2.symm.trans h4
section
variable {F:PFunc} {w0 wN wr w':World} {ps:List XBlk} {gO i:Nat} {v0 v1 vall vq:Value} {qs:List (PBlock×Value×Value)} {L:List PBlock}
theorem Ylz(h:ps.Pairwise YdL){j k:Nat}{x y:XBlk}(hj:ps[j]?=some x)(hk:ps[k]?=some y)(hne:j≠k):Apart x.vp y.vp∧Apart x.vi y.vi∧∀u∈x.rows,∀v∈y.rows,Apart u v:=by
 obtain⟨hj1,hj2⟩:=List.getElem?_eq_some_iff.1 hj;obtain⟨hk1,hk2⟩:=List.getElem?_eq_some_iff.1 hk;rcases Nat.lt_or_gt_of_ne hne with h1|h1
 · have hb:=List.pairwise_iff_getElem.1 h j k hj1 hk1 h1
   rw[hj2,hk2]at hb;exact⟨fun b e1 e2=>by have:=hb.vp b b e1 e2;omega,fun b e1 e2=>by have:=hb.vi b b e1 e2;omega,fun u hu v hv b e1 e2=>by have:=hb.rw u hu v hv b b e1 e2;omega⟩
 · have hb:=List.pairwise_iff_getElem.1 h k j hk1 hj1 h1
   rw[hj2,hk2]at hb;exact⟨fun b e1 e2=>by have:=hb.vp b b e2 e1;omega,fun b e1 e2=>by have:=hb.vi b b e2 e1;omega,fun u hu v hv b e1 e2=>by have:=hb.rw v hv u hu b b e2 e1;omega⟩
end
section
variable {w:World} {base:Nat} {v:Value} {D:Nat→Prop}
end
section
variable {w w':World} {base g n cap:Nat} {e:TypeId}
theorem Yhf{sz:Nat}{u:Value}:∀{ch:List (List Value)} {k j:Nat},(∀c∈ch,c.length=sz)→k<ch.length→j<sz→(ch.set k ((ch.getD k []).set j u)).flatten=ch.flatten.set (k*sz+j) u
 |[],k,j,_,hk,_=>by simp at hk
 |c0::ch,0,j,hs,_,hj=>by
  have h0:=hs c0 (List.mem_cons_self ..);simp only[Le,Lz,List.flatten_cons,Nat.zero_mul,Nat.zero_add];rw[List.set_append_left _ _ ZO]
 |c0::ch,k+1,j,hs,hk,hj=>by
  have h0:=hs c0 (List.mem_cons_self ..);have ih:=Yhf (u:=u) (ch:=ch) (k:=k) (j:=j) (fun c h=>hs c (List.mem_cons_of_mem _ h)) (by simpa using hk) hj;simp only[Ld,Lc,List.flatten_cons];have he:(k+1)*sz+j=c0.length+(k*sz+j):=by rw[Nat.succ_mul,h0];omega
  rw[ih,he,List.set_append_right _ _ ZO,Nat.add_sub_cancel_left]
theorem RRow.putJ{α:Type}{sz:Nat}{C C':List Value→α→Prop}{xs:List α}{i j:Nat}{u:Value}{x':α}(h:RRow w base e sz C (.slice (some ⟨g,0,none⟩) n cap) xs)(hi:i<xs.length)(hj:j<sz)
 (hC:∀(k:Nat) cs x,k≠i→xs[k]?=some x→C cs x→C' cs x) (hx:∀cs,C cs xs[i]→C' (cs.set j u) x'):RRow (w.setCell ⟨g,i*sz+j,none⟩ u) base e sz C' (.slice (some ⟨g,0,none⟩) n cap) (xs.set i x'):=by
 obtain⟨A,c1,hv⟩:=h.form;simp only[Value.slice.injEq]at hv;obtain⟨-,rfl,-⟩:=hv;obtain⟨ch,hl,hc,hr⟩:=h;have hcs:∀c∈ch,c.length=sz:=fun cs hm=>by
  obtain⟨i,hi,rfl⟩:=List.getElem_of_mem hm;exact(hc i _ (xs[i]'(ZO)) (by simp[hi]) ZS).1
 have hci:ch[i]?=some (ch.getD i []):=by simp[List.getD,hl,hi]
 have hci2:=hc i _ xs[i] hci (List.getElem?_eq_getElem hi);refine⟨ch.set i ((ch.getD i []).set j u),by simp[hl],fun k cs x h1 h2=>?_,?_⟩
 · by_cases hk:i=k
   · subst hk
     rw[List.getElem?_set_self ZO]at h1 h2;cases h1;cases h2;exact⟨by rw[List.length_set];exact hci2.1,hx _ hci2.2⟩
   · rw[List.getElem?_set_ne hk]at h1 h2
     exact⟨(hc k cs x h1 h2).1,hC k _ _ (fun e=>hk e.symm) h2 (hc k cs x h1 h2).2⟩
 · rw[Yhf hcs ZO hj,List.length_set]
   exact(hr.stored (i*sz+j) u).1
end
end Go.Proofs.YthhjlbflpjhahaaGreatDoor
