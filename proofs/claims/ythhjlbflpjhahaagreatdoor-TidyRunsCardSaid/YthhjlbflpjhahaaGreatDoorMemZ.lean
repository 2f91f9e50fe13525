/- The plain law of Prune: what is left of a program without what isn't reached. -/
import Derived.Test.YthhjlbflpjhahaaGreatDoorJoinQZ
import Derived.Test.YthhjlbflpjhahaaGreatDoorWaysZ
import Derived.Test.YthhjlbflpjhahaaGreatDoorSchZ
import Derived.Test.YthhjlbflpjhahaaGreatDoorTreePZ
import Derived.Test.YthhjlbflpjhahaaGreatDoorMkRowsZ
import Derived.Great.BuildSlice
import Derived.Deep.MidRow
import Derived.Deep.DeepCutAuto
import Derived.Deep.CutBlock
namespace Go.Proofs.YthhjlbflpjhahaaGreatDoor
open Go.RowKit
set_option maxRecDepth 100000
def thB(F:PFunc)(i:Nat):Bool:=(marksL F.blocks.length (postO F).reverse).getD i false
def numP(F:PFunc):Nat→Nat
 |0=>0
 |i+1=>if thB F i=true then numP F i+1 else numP F i
def keepF(F:PFunc)(i:Nat)(a:Int):Bool:=leads (F.blk a.toNat).term (i:Int)&&thB F a.toNat
def prA(F:PFunc)(i:Nat)(x:PPhi):Nat→List Int
 |0=>[]
 |k+1=>if keepF F i (ith x.froms k)=true then prA F i x k++[ith x.args k] else prA F i x k
def prN(F:PFunc)(i:Nat)(x:PPhi):Nat→List Int
 |0=>[]
 |k+1=>if keepF F i (ith x.froms k)=true then prN F i x k++[(numP F (ith x.froms k).toNat:Int)] else prN F i x k
def prPhi(F:PFunc)(i:Nat)(x:PPhi):PPhi:={ dst:=x.dst,args:=prA F i x x.froms.length,froms:=prN F i x x.froms.length }
def prTerm(F:PFunc)(t:PTerm):PTerm:=
 if t.kind=0 then { t with t0:=(numP F t.t0.toNat:Int) } else if t.kind=1 then { t with t0:=(numP F t.t0.toNat:Int),t1:=(numP F t.t1.toNat:Int) } else t
def prBlk(F:PFunc)(i:Nat):PBlock:={ name:=(F.blk i).name,phis:=(F.blk i).phis.map (prPhi F i),insts:=(F.blk i).insts,term:=prTerm F (F.blk i).term }
def prBlks(F:PFunc):Nat→List PBlock
 |0=>[]
 |i+1=>if thB F i=true then prBlks F i++[prBlk F i] else prBlks F i
def prF(F:PFunc):PFunc:={ vars:=F.vars,params:=F.params,blocks:=prBlks F F.blocks.length }
section
variable {F:PFunc} {i k:Nat} {x:PPhi}
theorem numP_yes(h:thB F i=true):numP F (i+1)=numP F i+1:=by rw[numP,if_pos h]
theorem numP_no(h:thB F i=false):numP F (i+1)=numP F i:=by rw[numP,if_neg (by simp[h])]
theorem numP_le:∀i,numP F i≤i
 |0=>Nr _
 |i+1=>by
  have:=numP_le i;rw[numP];split<;>omega
theorem numP_mono{i:Nat}:∀{j:Nat},i≤j→numP F i≤numP F j
 |0,h=>by rw[show i=0 from ZO];exact Nr _
 |j+1,h=>by
  by_cases e:i=j+1
  · rw[e];exact Nr _
  · have:=numP_mono (i:=i) (j:=j) ZO
    rw[numP];split<;>omega
theorem numP_lt{j:Nat}(h:i<j)(ht:thB F i=true):numP F i<numP F j:=by
 have:=numP_mono (F:=F) (show i+1≤j from ZO);rw[numP_yes ht]at this;omega
theorem prA_yes(h:keepF F i (ith x.froms k)=true):prA F i x (k+1)=prA F i x k++[ith x.args k]:=by rw[prA,if_pos h]
theorem prA_no(h:keepF F i (ith x.froms k)=false):prA F i x (k+1)=prA F i x k:=by rw[prA,if_neg (by simp[h])]
theorem prN_yes(h:keepF F i (ith x.froms k)=true):prN F i x (k+1)=prN F i x k++[(numP F (ith x.froms k).toNat:Int)]:=by rw[prN,if_pos h]
theorem prN_no(h:keepF F i (ith x.froms k)=false):prN F i x (k+1)=prN F i x k:=by rw[prN,if_neg (by simp[h])]
theorem prAN_len:∀k,(prA F i x k).length=(prN F i x k).length
 |0=>rfl
 |k+1=>by
  have:=prAN_len k;rw[prA,prN];split
  · simp[this]
  · exact this
theorem prA_le:∀k,(prA F i x k).length≤k
 |0=>Nr _
 |k+1=>by
  have:=prA_le k;rw[prA];split
  · exact ZX
  · exact ZO
theorem prN_le(k:Nat):(prN F i x k).length≤k:=by rw[← prAN_len];exact prA_le k
theorem prA_mem{v:Int}:∀{k:Nat},v∈prA F i x k→∃j,j<k∧v=ith x.args j
 |0,h=>by simp[prA]at h
 |k+1,h=>by
  rw[prA]at h;split at h
  · rcases List.mem_append.1 h with h|h
    · obtain⟨j,h1,h2⟩:=prA_mem h
      exact⟨j,ZO,h2⟩
    · exact⟨k,ZO,by simpa using h⟩
  · obtain⟨j,h1,h2⟩:=prA_mem h
    exact⟨j,ZO,h2⟩
theorem prBlks_yes(h:thB F i=true):prBlks F (i+1)=prBlks F i++[prBlk F i]:=by rw[prBlks,if_pos h]
theorem prBlks_no(h:thB F i=false):prBlks F (i+1)=prBlks F i:=by rw[prBlks,if_neg (by simp[h])]
theorem prBlks_len:∀i,(prBlks F i).length=numP F i
 |0=>rfl
 |i+1=>by
  have:=prBlks_len i;rw[prBlks,numP];split
  · simp[this]
  · exact this
theorem prBlks_mem{b:PBlock}:∀{i:Nat},b∈prBlks F i→∃j,j<i∧thB F j=true∧b=prBlk F j
 |0,h=>by simp[prBlks]at h
 |i+1,h=>by
  rw[prBlks]at h;split at h
  · rename_i ht
    rcases List.mem_append.1 h with h|h
    · obtain⟨j,h1,h2⟩:=prBlks_mem h
      exact⟨j,ZO,h2⟩
    · exact⟨i,ZO,ht,by simpa using h⟩
  · obtain⟨j,h1,h2⟩:=prBlks_mem h
    exact⟨j,ZO,h2⟩
theorem thB_lt(h:thB F i=true):i<F.blocks.length:=by
 have:=getD_true_lt h
 rwa [marksL_len]at this
theorem thB_iff(hi:i<F.blocks.length):thB F i=true↔i∈postO F:=by rw[thB,marksL_at hi,List.mem_reverse]
theorem thB_zero(h:typedP F=true):thB F 0=true:=by
 have n1:=(shaped_count (typed_shaped h)).1;exact(thB_iff ZO).2 (List.mem_of_getLast? (post_fin h).last)
theorem thB_clo(h:typedP F=true)(ht:thB F i=true){c:Nat}(hl:leads (F.blk i).term (c:Int)=true):thB F c=true:=by
 have hi:=thB_lt ht;have hc:=(EN_leads h hi).2 hl;exact(thB_iff (EN_lt h hi c hc)).2 ((post_fin h).clo i ((thB_iff hi).1 ht) c hc)
theorem thB_ends(h:typedP F=true)(ht:thB F i=true){c:Int}(hc:c∈endsOf (F.blk i).term):0≤c∧c<F.blocks.length∧thB F c.toNat=true:=by
 have hi:=thB_lt ht;have hb:=inB_true (ends_in h hi c hc);have hm:c.toNat∈EN F i:=List.mem_map.2 ⟨c,hc,rfl⟩;exact⟨hb.1,hb.2,thB_clo h ht ((EN_leads h hi).1 hm)⟩
theorem numP_pos(h:typedP F=true){c:Int}(h0:0≤c)(h1:(c !=0)=true):((numP F c.toNat:Int) !=0)=true:=by
 rw[bne_iff_ne]at *;have h2:numP F 1=1:=by rw[numP_yes (thB_zero h)];rfl
 have:=numP_mono (F:=F) (show 1≤c.toNat from ZO);omega
theorem ty_pr(v:Int):tyOf (prF F) v=tyOf F v:=rfl
theorem takes_pr:∀(l m:List Int),takesT (prF F) l m=takesT F l m
 |[],m=>by cases m<;>rfl
 |a::l,[]=>rfl
 |a::l,t::m=>by rw[takesT,takesT,takes_pr l m,ty_pr]
theorem inst_pr(y:PInst):instT (prF F) y=instT F y:=by
 unfold instT;rw[takes_pr];rfl
theorem typed_blk(h:typedP F=true)(hi:i<F.blocks.length):blkT F (F.blk i)=true:=by
 unfold typedP at h;rw[Bool.and_eq_true,List.all_eq_true]at h;exact h.2 _ (mem_of_blk hi)
theorem term_pr(h:typedP F=true)(hi:i<F.blocks.length):termT (prF F) (prTerm F (F.blk i).term)=true:=by
 have hb:=typed_blk h hi;have hs:=(shaped_blk (typed_shaped h) hi).2.2;unfold blkT at hb;rw[Bool.and_eq_true]at hb;have ht:=hb.2;clear hb;generalize (F.blk i).term=t at *;unfold termT at ht ⊢;unfold termB at hs;unfold prTerm
 by_cases h0:t.kind=0
 · rw[if_pos h0]at ht hs
   rw[if_pos h0,if_pos h0];simp only[Bool.and_eq_true]at hs;exact numP_pos h (inB_true hs.1.1).1 ht
 · rw[if_neg h0]at ht hs
   by_cases h1:t.kind=1
   · rw[if_pos h1]at ht hs
     rw[if_neg h0,if_pos h1,if_neg h0,if_pos h1];simp only[Bool.and_eq_true]at hs ht ⊢;exact⟨⟨ht.1.1,numP_pos h (inB_true hs.1.2).1 ht.1.2⟩,numP_pos h (inB_true hs.2).1 ht.2⟩
   · rw[if_neg h1]at ht
     rw[if_neg h0,if_neg h1,if_neg h0,if_neg h1];exact ht
theorem phi_pr(h:phiT F x=true)(hl:x.args.length=x.froms.length):phiT (prF F) (prPhi F i x)=true:=by
 unfold phiT at *;rw[List.all_eq_true]at *;intro v hv;obtain⟨j,hj,rfl⟩:=prA_mem hv;exact h _ (List.mem_of_getElem? (ith_get ZO))
theorem blk_pr(h:typedP F=true)(hi:i<F.blocks.length):blkT (prF F) (prBlk F i)=true:=by
 have hb:=typed_blk h hi;have hs:=(shaped_blk (typed_shaped h) hi).1;have hm:=term_pr h hi;unfold blkT at hb ⊢;rw[Bool.and_eq_true,Bool.and_eq_true,List.all_eq_true,List.all_eq_true]at hb;rw[Bool.and_eq_true,Bool.and_eq_true,List.all_eq_true,List.all_eq_true];refine⟨⟨fun y hy=>?_,fun y hy=>?_⟩,hm⟩
 · obtain⟨x,hx,rfl⟩:=List.mem_map.1 hy
   refine phi_pr (hb.1.1 x hx) ?_;have:=hs x hx;unfold phiB at this;simp only[Bool.and_eq_true,decide_eq_true_eq]at this;exact this.1.1.1.2
 · rw[inst_pr]
   exact hb.1.2 y hy
theorem typed_pr(h:typedP F=true):typedP (prF F)=shapedP (prF F):=by
 have:(prF F).blocks.all (blkT (prF F))=true:=by
  rw[List.all_eq_true];intro b hb;obtain⟨j,hj,-,rfl⟩:=prBlks_mem hb;exact blk_pr h hj
 rw[typedP,this,Bool.and_true]
theorem bnd_pr(h:Bnd F):Bnd (prF F):=by
 have hm:∀b∈(prF F).blocks,∃j,j<F.blocks.length∧b=prBlk F j:=fun b hb=>by
  obtain⟨j,hj,-,e⟩:=prBlks_mem hb;exact⟨j,hj,e⟩
 refine⟨h.vars,h.params,?_,?_,?_,?_⟩
 · have h1:=numP_le (F:=F) F.blocks.length
   have h2:=h.blocks;rw[prF,prBlks_len];omega
 · intro b hb
   obtain⟨j,hj,rfl⟩:=hm b hb;simpa[prBlk]using h.parts _ (mem_of_blk hj)
 · intro b hb p hp
   obtain⟨j,hj,rfl⟩:=hm b hb;obtain⟨x,hx,rfl⟩:=List.mem_map.1 hp;have h1:=(h.pairs _ (mem_of_blk hj) x hx).2;have h2:=prA_le (F:=F) (i:=j) (x:=x) x.froms.length;have h3:=prN_le (F:=F) (i:=j) (x:=x) x.froms.length;exact⟨Nat.le_trans h2 h1,Nat.le_trans h3 h1⟩
 · intro b hb y hy
   obtain⟨j,hj,rfl⟩:=hm b hb;exact h.args _ (mem_of_blk hj) y hy
theorem Bnd.small{G:PFunc}(h:Bnd G):Small G:=by
 refine⟨by have:=h.vars;omega,by have:=h.blocks;omega,fun i hi=>?_⟩;have:=h.parts _ (mem_of_blk hi);exact⟨ZO,ZO⟩
end
def Two(w:World)(B:Nat)(v1:Value)(xs:List Int)(v2:Value)(ys:List Int):Prop:=
 w.ownsRow B 3 1 v1 xs.length (xs.map (Value.int .i64))∧w.ownsRow B 3 1 v2 ys.length (ys.map (Value.int .i64))∧∀k,v1.ownBlock=some k→v2.ownBlock≠some k
section
variable {w w':World} {B:Nat} {v1 v2:Value} {xs ys:List Int} {x:Int} {N:Nat}
theorem Two.swap(h:Two w B v1 xs v2 ys):Two w B v2 ys v1 xs:=⟨h.2.1,h.1,fun k e2 e1=>h.2.2 k e1 e2⟩
theorem Two.alloc(h:Two w B v1 xs v2 ys)(o:Obj):Two (w.alloc o) B v1 xs v2 ys:=⟨h.1.alloc o,h.2.1.alloc o,h.2.2⟩
theorem Two.set(h:Two w B v1 xs v2 ys){a:Addr}(ha:a.block<B)(u:Value):Two (w.setCell a u) B v1 xs v2 ys:=
 ⟨ownsRow_setCell_other h.1 (fun e=>by have:=(own_lt h.1 e).1;omega) _,ownsRow_setCell_other h.2.1 (fun e=>by have:=(own_lt h.2.1 e).1;omega) _,h.2.2⟩
theorem Two.nil:Two w B (.slice none 0 0) [] (.slice none 0 0) []:=⟨World.ownsRow_nil _ _ _ _,World.ownsRow_nil _ _ _ _,fun k e=>by cases e⟩
theorem Two.app(h:Two w B v1 xs v2 ys)(hc:w.cell? ⟨N,0,none⟩=some (.int .i64 x))(hn:xs.length<1048576)(hB:B≤w.heap.size) :
 ∃v' w',(Builtin.append_ #[23,23] 23 #[v1,.slice (some ⟨N,0,none⟩) 1 1]).run Tryz.prog w=.ok v' w'∧Two w' B v' (xs++[x]) v2 ys∧w.grownBy w' v1.ownBlock∧Below B w w':=by
 obtain⟨i,hi,hz,hsz,hb⟩:=info_parts Tryz.info3;have hbytes:(xs.length+1)*8≤140737488355328:=by omega
 obtain⟨v',w',hr,h2,h3,-,h4⟩:=run_append_own_at (P:=Tryz.prog) w B 23 23 3 i _ 1 8 Tryz.underlying23 hi hz hsz hb rfl ZD v1 xs.length _ h.1 ⟨N,0,none⟩ 1 1 [.int .i64 x] rfl
  (fun j u hj=>by
    match j,hj with
    |0,hj=>simp at hj;subst hj;exact hc) (by simp[Value.oneCell']) (by unfold maxLen;omega) hbytes hB
 refine⟨v',w',hr,⟨by simpa using h2,own_turn h.2.1 (fun k hk=>h3.block k (own_lt h.2.1 hk).2 (fun e=>h.2.2 k e.symm hk)),fun k hk hk2=>?_⟩,h3,⟨h3.os,h3.tape,h3.output,h3.size,fun k hk=>h3.block k ZO (fun e=>by have:=(own_lt h.1 e.symm).1;omega)⟩⟩;rcases h4 with e|e
 · rw[e]at hk
   exact h.2.2 k hk hk2
 · rw[e]at hk
   cases hk;have:=(own_lt h.2.1 hk2).2;omega
theorem wp_two{o:Oper}{a:Act}{K:Act→World→Prop}{Q:Exit→Act→World→Prop}(s z:Operand)(ho:o.op=.call { callee:=.builtin .append,args:=#[s,z],argTypes:=#[23,23] })(hty:o.type=23)
 (hs:a.eval s=v1) (hz:a.eval z=.slice (some ⟨N,0,none⟩) 1 1) (h:Two w B v1 xs v2 ys) (hc:w.cell? ⟨N,0,none⟩=some (.int .i64 x)) (hn:xs.length<1048576) (hB:B≤w.heap.size)
 (hK:∀A c w',Two w' B (.slice A (xs.length+1) c) (xs++[x]) v2 ys→w.grownBy w' v1.ownBlock→Below B w w'→K (a.put o.dst (.slice A (xs.length+1) c)) w'):o.wp Tryz.prog a w K Q:=by
 obtain⟨v',w',hr,h1,h2,h3⟩:=h.app hc hn hB;obtain⟨A,c,hv⟩:=own_form h1.1;rw[List.length_append]at hv;subst hv;exact wp_append_run s z 23 ho hs hz (by rw[hty];exact hr) (hK A c w' h1 h2 h3)
theorem keepN{r:Option Nat}{u:Value}(hg:w.grownBy w' r)(h:w.cell? ⟨N,0,none⟩=some u)(hr:r≠some N):w'.cell? ⟨N,0,none⟩=some u:=hg.cell h (fun e=>hr e.symm)
end
theorem BoxAt.put21{w:World}{g:Nat}{t:TypeId}{x a b a' b':Value}(h:BoxAt w g #[x,a,b] t):BoxAt ((w.setCell ⟨g,2,none⟩ b').setCell ⟨g,1,none⟩ a') g #[x,a',b'] t:=by
 simpa using(h.set 2 b').set 1 a'
theorem containsRd_calls{W w:World}{A:Option Addr}{c:Nat}{xs:List Int}(h:Rd W.heap.size A xs 1 (IntC W))(hW:Below W.heap.size W w)(hn:xs.length≤1048576)(z:Int) :
 Calls Tryz.prog 97 #[.slice A xs.length c,.int .i64 z] w fun e w'=>e=.returned (.bool (xs.contains z))∧w'=w:=by
 cases xs with
 |nil=>
  refine(Tryz.slices_Contains_int_empty A c z w).mono ?_;rintro e w' ⟨rfl,rfl⟩;exact⟨ZS,rfl⟩
 |cons y ys=>
  obtain⟨b,off,rfl,hb,-⟩:=h.int hW (i:=0) ZS;refine(Tryz.slices_Contains_int b off (y::ys).length c (y::ys) z w ZO ZO (fun j hj=>?_)).mono ?_
  · obtain⟨b2,o2,e,-,hc⟩:=h.int hW (i:=j) hj
    cases e;rw[hc,ith]
  · rintro e w' ⟨rfl,rfl⟩
    rw[List.take_length];exact⟨rfl,rfl⟩
theorem rowsP_move{w w':World}{A:Option Addr}{xss:List (List Int)}(h:Rd w.heap.size A xss 1 (RowC w w.heap.size))(hb:Below w.heap.size w w'):Rd w'.heap.size A xss 1 (RowC w' w'.heap.size):=
 h.keep hb.size fun _ _ _ hl hx=>by
  obtain⟨v,h1,h2⟩:=hx;exact⟨v,by rw[(Kept.of_below hb) _ _ hl];exact h1,h2.keep (Kept.of_below hb) hb.size⟩
set_option maxHeartbeats 8000000 in
theorem gphi_calls{W w:World}{F:PFunc}{i:Nat}{x:PPhi}{A6 A7 Af An:Option Addr}{c6 c7 cf cn:Nat}{fs nums:List Int}(ha:Rd W.heap.size A6 x.args 1 (IntC W))(hfr:Rd W.heap.size A7 x.froms 1 (IntC W))(hf:Rd W.heap.size Af fs 1 (IntC W))(hn:Rd W.heap.size An nums 1 (IntC W))
 (hW:Below W.heap.size W w) (hal:x.args.length=x.froms.length) (hl:x.froms.length≤100000) (hfl:fs.length≤100000)
 (hk:∀k,k<x.froms.length→0≤ith x.froms k∧(ith x.froms k).toNat<nums.length∧keepF F i (ith x.froms k)=(fs.contains (ith x.froms k)&&decide (0≤ith nums (ith x.froms k).toNat)))
 (hm:∀k,k<x.froms.length→keepF F i (ith x.froms k)=true→ith nums (ith x.froms k).toNat=numP F (ith x.froms k).toNat) :
 Calls Tryz.prog 67 #[.agg #[.int .i64 x.dst,.slice A6 x.args.length c6,.slice A7 x.froms.length c7],.slice Af fs.length cf,.slice An nums.length cn] w fun e w'=>∃v1 v2,e=.returned (.agg #[.int .i64 x.dst,v1,v2])∧
  Two w' w.heap.size v2 (prPhi F i x).froms v1 (prPhi F i x).args∧Below w.heap.size w w':=by
 have hWs:=hW.size;have HAL:=Lh hal;clear hal;obtain⟨w2,hw2⟩:∃w2:World,w2=(w.alloc (.cells #[.int .i64 x.dst,.slice A6 x.args.length c6,.slice A7 x.froms.length c7] 64)).alloc (.cells #[.int .i64 0,.slice none 0 0,.slice none 0 0] 64):=⟨_,rfl⟩;have hb2:Below w.heap.size w w2:=by rw[hw2];exact BL
 have hs2:w2.heap.size=w.heap.size+2:=by rw[hw2];simp
 have x0:BoxAt w2 w.heap.size #[.int .i64 x.dst,.slice A6 x.args.length c6,.slice A7 x.froms.length c7] 64:=by rw[hw2];exact(BoxAt.new _ _ _).alloc _
 have x1:BoxAt w2 (w.heap.size+1) #[.int .i64 0,.slice none 0 0,.slice none 0 0] 64:=by
  rw[hw2];have:=BoxAt.new (w.alloc (.cells #[.int .i64 x.dst,.slice A6 x.args.length c6,.slice A7 x.froms.length c7] 64)) #[.int .i64 0,.slice none 0 0,.slice none 0 0] 64;simpa using this
 have q0:=x0.cell 0;have q2:=x0.cell 2;have ql:=x0.lt;simp at q0 q2;go_enter Tryz.func67,Tryz.ntmps67
 go_upto_region 1 with fail
 rw[← hw2];clear hw2;go_wp2_with fail;clear q0 q2 ql
 go_loopw[16] (fun s wr=>∃(k:Nat) (B1 B2:Option Addr) (d1 d2:Nat),s=.int .i64 k∧k≤x.froms.length∧Two wr (w.heap.size+3) (.slice B2 (prN F i x k).length d2) (prN F i x k) (.slice B1 (prA F i x k).length d1) (prA F i x k)∧
  BoxAt wr (w.heap.size+2) #[.int .i64 x.dst,.slice B1 (prA F i x k).length d1,.slice B2 (prN F i x k).length d2] 64∧Below w2.heap.size w2 wr) (fun s _=>x.froms.length-(intOf s).toNat)
 case atStart=>
  refine⟨0,none,none,0,0,rfl,Nz _,Two.nil,?_,(Br _ _).alloc (Nr _) _⟩;have:=BoxAt.new w2 #[.int .i64 x.dst,.slice none 0 0,.slice none 0 0] 64;rw[hs2]at this;exact this
 case round=>as_aux_lemma=>
  obtain⟨k,B1,B2,d1,d2,rfl,hkl,hT,hx,hb⟩:=hrel;have hBr:=hb2.trans (hb.mono hb2.size);have hWr:=hW.trans (hBr.mono hWs);have y0:=x0.below hb x0.lt;have y1:=x1.below hb x1.lt;have hxl:=hx.lt;have q01:=y0.cell 1;have q11:=hx.cell 1;have q12:=hx.cell 2;simp at q01 q11 q12
  by_cases hlt:k<x.froms.length
  · obtain⟨b7,o7,rfl,hb7,hc7⟩:=hfr.int hWr hlt
    obtain⟨b6,o6,rfl,hb6,hc6⟩:=ha.int hWr (i:=k) (by have:=HAL.out;omega);obtain⟨hk0,hk1,hk2⟩:=hk k hlt;have hk3:=hm k hlt;obtain⟨f,hfk⟩:∃f:Nat,ith x.froms k=f:=⟨(ith x.froms k).toNat,ZO⟩;have HFK:=Lh hfk;rw[hfk,Int.toNat_natCast]at hk1 hk2 hk3;rw[hfk]at hc7;obtain⟨bn,on,rfl,hbn,hcn⟩:=hn.int hWr hk1;obtain⟨b8,o8,e8,hbnW,-⟩:=hn _ _ (ith_get hk1);cases e8;obtain⟨b8,o8,e8,hb6W,-⟩:=ha _ _ (ith_get (show k<x.args.length by have:=HAL.out;omega));cases e8;have hcon:=containsRd_calls (c:=cf) hf hWr ZO (f:Int);have HA0:=Lh (prA_no (F:=F) (i:=i) (x:=x) (k:=k));have HN0:=Lh (prN_no (F:=F) (i:=i) (x:=x) (k:=k));have HA1:=Lh (prA_yes (F:=F) (i:=i) (x:=x) (k:=k));have HN1:=Lh (prN_yes (F:=F) (i:=i) (x:=x) (k:=k));rw[hfk]at HA0 HN0 HA1 HN1;have hla:=prA_le (F:=F) (i:=i) (x:=x) k;have hln:=prN_le (F:=F) (i:=i) (x:=x) k;clear hfk hk hm y1;cases hct:fs.contains (f:Int)
    · rw[hct]at hk2 hcon
      have ea:=HA0.out (by simpa using hk2);have en:=HN0.out (by simpa using hk2);clear hct hk2 hk3 HA0 HN0 HA1 HN1;have EA:=Lh ea;have EN':=Lh en;clear ea en;go_wp2_with(go_at_call 97;refine hcon.mono ?_;rintro e w9 ⟨rfl,hw9⟩;subst w9);go_roundw
      case rel=>exact⟨k+1,B1,B2,d1,d2,ZN,ZO,by rw[EA.out,EN'.out];exact hT,by rw[EA.out,EN'.out];exact hx,hb⟩
      case measure=>simp[intOf];omega
    · rw[hct]at hk2 hcon
      by_cases hge:0≤ith nums f
      · have hkp:keepF F i (f:Int)=true:=by rw[hk2];simp[hge]
        have hnv:=hk3 hkp;rw[hnv]at hcn;have EA:=Lh (HA1.out hkp);have EN':=Lh (HN1.out hkp);have hlA:=congrArg List.length EA.out;have hlN:=congrArg List.length EN'.out;rw[List.length_append,List.length_singleton]at hlA hlN;rw[Int.toNat_natCast]at EN';have HLA:=Lh hlA;have HLN:=Lh hlN;clear hlA hlN hct hk2 hk3 HA0 HN0 HA1 HN1 hge hkp hnv;generalize ith x.args k=av at *;generalize prN F i x k=pn at *;generalize prA F i x k=pa at *;have hka:k<x.args.length:=by have:=HAL.out;omega
        have hls2:=fun j (e:(Value.slice B2 pn.length d2).ownBlock=some j)=>(own_lt hT.1 e).2
        have hls1:=fun j (e:(Value.slice B1 pa.length d1).ownBlock=some j)=>(own_lt hT.2.1 e).2
        go_wp2_with(go_at_call 97;refine hcon.mono ?_;rintro e w9 ⟨rfl,hw9⟩;subst w9);obtain⟨S0,hS0⟩:∃S0:World→Prop,S0=fun w'=>w'.cell? ⟨w.heap.size+2,2,none⟩=some (.slice B2 pn.length d2)∧w'.cell? ⟨w.heap.size+2,1,none⟩=some (.slice B1 pa.length d1)∧w'.cell? ⟨w.heap.size,1,none⟩=some (.slice (some ⟨b6,o6,none⟩) x.args.length c6)∧w'.cell? ⟨bn,on+f,none⟩=some (.int .i64 ((numP F f:Nat):Int))∧w'.cell? ⟨b6,o6+k,none⟩=some (.int .i64 av)∧Below (w.heap.size+3) wr w'∧w.heap.size+2<w'.heap.size∧w.heap.size<w'.heap.size∧bn<w'.heap.size∧b6<w'.heap.size:=⟨_,rfl⟩
        have HS0:=Lh hS0;clear hS0;have k0:=fun xw=>(WS.at HS0 xw).1
        have k1:=fun xw=>(WS.at HS0 xw).2.1
        have k2:=fun xw=>(WS.at HS0 xw).2.2.1
        have k3:=fun xw=>(WS.at HS0 xw).2.2.2.1
        have k4:=fun xw=>(WS.at HS0 xw).2.2.2.2.1
        have k5:=fun xw=>(WS.at HS0 xw).2.2.2.2.2.1
        have k6:=fun xw=>(WS.at HS0 xw).2.2.2.2.2.2.1
        have k7:=fun xw=>(WS.at HS0 xw).2.2.2.2.2.2.2.1
        have k8:=fun xw=>(WS.at HS0 xw).2.2.2.2.2.2.2.2.1
        have k9:=fun xw=>(WS.at HS0 xw).2.2.2.2.2.2.2.2.2
        refine wp_region_treeE (S:=S0) [18,19,20] ZK ?hS (fun hSc hcl=>?_)
        case hS=>
         rw[HS0.out];exact⟨ZI,ZI,ZI,ZI,ZI,BL,ZJ,ZJ,ZJ,ZJ⟩
        have hne0:Nonempty (WS S0):=⟨⟨_,hSc⟩⟩;have hneT:Nonempty (WS (fun _=>True)):=match hne0 with|⟨x⟩=>⟨⟨x.w,trivial⟩⟩
        refine wpTreeE_run [(0,0),(1,0),(2,0),(3,0),(4,0),(5,0),(8,0),(9,0),(10,0),(11,0),(12,0),(13,0),(14,0)] 8 rfl ZK (fun _ _ _ _ _ h=>h) hSc hcl ?_
        all_goals
         (try simp only[List.map_cons,List.map_nil,Ld,Le])
         repeat
          first
          |((with_reducible refine wpSch3_lk ?_ ?_);exact rfl;dsimp only;go_big_quiet_step (fail);(try with_reducible refine wpQuiet_nil ?_);(try dsimp only))
          |((with_reducible refine wpSch3_fr ?_ ?_);exact rfl;dsimp only;go_big_quiet_step (fail);(try with_reducible refine wpQuiet_nil ?_);(try dsimp only))
          |((with_reducible refine wpSch3_at ?_ ?_ (fun K hK=>?_))
            exact rfl;exact rfl;dsimp only
            first
            |((first|refine wp_two (B:=w.heap.size+3) (v1:=.slice B2 pn.length d2) (xs:=pn) (x:=((numP F f:Nat):Int)) _ _ rfl rfl rfl rfl hT ?_ ?_ ?_ ?_|refine wp_two (B:=w.heap.size+3) (v1:=.slice B2 pn.length d2) (xs:=pn) (x:=((numP F f:Nat):Int)) _ _ rfl rfl rfl rfl hT.swap ?_ ?_ ?_ ?_|refine wp_two (B:=w.heap.size+3) (v1:=.slice B2 pn.length d2) (xs:=pn) (x:=((numP F f:Nat):Int)) _ _ rfl rfl rfl rfl (hT.alloc _) ?_ ?_ ?_ ?_|refine wp_two (B:=w.heap.size+3) (v1:=.slice B2 pn.length d2) (xs:=pn) (x:=((numP F f:Nat):Int)) _ _ rfl rfl rfl rfl (hT.alloc _).swap ?_ ?_ ?_ ?_|refine wp_two (B:=w.heap.size+3) (v1:=.slice B2 pn.length d2) (xs:=pn) (x:=((numP F f:Nat):Int)) _ _ rfl rfl rfl rfl ((hT.alloc _).alloc _) ?_ ?_ ?_ ?_|refine wp_two (B:=w.heap.size+3) (v1:=.slice B2 pn.length d2) (xs:=pn) (x:=((numP F f:Nat):Int)) _ _ rfl rfl rfl rfl ((hT.alloc _).alloc _).swap ?_ ?_ ?_ ?_);(focus first|assumption|(go_keep;done)|(go_simp;done)|(refine keepN hG9 ?_ (fun e=>by have:=hls2 _ e;omega);go_simp;done));(focus omega);(focus first|omega|(simp;omega));intro A9 c9 w9 hT hG9 hb9;have hc9:=fun(b o:Nat) (h:b<w.heap.size+3)=>hb9.cell (p:=⟨b,o,none⟩) h;have hz9:=hb9.size;(try simp at hz9);simp only[Act.put,La,Lz,Lc])
            |((first|refine wp_two (B:=w.heap.size+3) (v1:=.slice B1 pa.length d1) (xs:=pa) (x:=av) _ _ rfl rfl rfl rfl hT ?_ ?_ ?_ ?_|refine wp_two (B:=w.heap.size+3) (v1:=.slice B1 pa.length d1) (xs:=pa) (x:=av) _ _ rfl rfl rfl rfl hT.swap ?_ ?_ ?_ ?_|refine wp_two (B:=w.heap.size+3) (v1:=.slice B1 pa.length d1) (xs:=pa) (x:=av) _ _ rfl rfl rfl rfl (hT.alloc _) ?_ ?_ ?_ ?_|refine wp_two (B:=w.heap.size+3) (v1:=.slice B1 pa.length d1) (xs:=pa) (x:=av) _ _ rfl rfl rfl rfl (hT.alloc _).swap ?_ ?_ ?_ ?_|refine wp_two (B:=w.heap.size+3) (v1:=.slice B1 pa.length d1) (xs:=pa) (x:=av) _ _ rfl rfl rfl rfl ((hT.alloc _).alloc _) ?_ ?_ ?_ ?_|refine wp_two (B:=w.heap.size+3) (v1:=.slice B1 pa.length d1) (xs:=pa) (x:=av) _ _ rfl rfl rfl rfl ((hT.alloc _).alloc _).swap ?_ ?_ ?_ ?_);(focus first|assumption|(go_keep;done)|(go_simp;done)|(refine keepN hG9 ?_ (fun e=>by have:=hls2 _ e;omega);go_simp;done));(focus omega);(focus first|omega|(simp;omega));intro A9 c9 w9 hT hG9 hb9;have hc9:=fun(b o:Nat) (h:b<w.heap.size+3)=>hb9.cell (p:=⟨b,o,none⟩) h;have hz9:=hb9.size;(try simp at hz9);simp only[Act.put,La,Lz,Lc])
            |(go_simp)
            refine hK.out _ _ ?hS (fun hSc=>?_)
            case hS=>
             first
             |exact hSc
             |(rw[HS0.out]at hSc ⊢;obtain⟨p0,p1,p2,p3,p4,p5,p6,p7,p8,p9⟩:=hSc;exact⟨ZC0,ZC1,ZC2,ZC3,ZC4,(by first|exact p5.trans (hb9.mono (by have:=p5.size;first|omega|(simp at this ⊢;omega)))|exact BL),ZT6,ZT7,ZT8,ZT9⟩)
             |(rw[HS0.out]at hSc ⊢;obtain⟨p0,p1,p2,p3,p4,p5,p6,p7,p8,p9⟩:=hSc;exact⟨ZC,ZC,ZC,ZC,ZC,BL,ZT,ZT,ZT,ZT⟩)
            clear hK K)
         (try(refine wpSch3_nil ?_;intro hSc hcl))
        refine wpTreeE_fork 6 15 7 rfl ZK hSc hcl ?_ ?_
        all_goals
         (try simp only[Ld,Le])
         repeat
          first
          |((with_reducible refine wpSch3_lk ?_ ?_);exact rfl;dsimp only;go_big_quiet_step (fail);(try with_reducible refine wpQuiet_nil ?_);(try dsimp only))
          |((with_reducible refine wpSch3_fr ?_ ?_);exact rfl;dsimp only;go_big_quiet_step (fail);(try with_reducible refine wpQuiet_nil ?_);(try dsimp only))
          |((with_reducible refine wpSch3_at ?_ ?_ (fun K hK=>?_))
            exact rfl;exact rfl;dsimp only
            first
            |((first|refine wp_two (B:=w.heap.size+3) (v1:=.slice B2 pn.length d2) (xs:=pn) (x:=((numP F f:Nat):Int)) _ _ rfl rfl rfl rfl hT ?_ ?_ ?_ ?_|refine wp_two (B:=w.heap.size+3) (v1:=.slice B2 pn.length d2) (xs:=pn) (x:=((numP F f:Nat):Int)) _ _ rfl rfl rfl rfl hT.swap ?_ ?_ ?_ ?_|refine wp_two (B:=w.heap.size+3) (v1:=.slice B2 pn.length d2) (xs:=pn) (x:=((numP F f:Nat):Int)) _ _ rfl rfl rfl rfl (hT.alloc _) ?_ ?_ ?_ ?_|refine wp_two (B:=w.heap.size+3) (v1:=.slice B2 pn.length d2) (xs:=pn) (x:=((numP F f:Nat):Int)) _ _ rfl rfl rfl rfl (hT.alloc _).swap ?_ ?_ ?_ ?_|refine wp_two (B:=w.heap.size+3) (v1:=.slice B2 pn.length d2) (xs:=pn) (x:=((numP F f:Nat):Int)) _ _ rfl rfl rfl rfl ((hT.alloc _).alloc _) ?_ ?_ ?_ ?_|refine wp_two (B:=w.heap.size+3) (v1:=.slice B2 pn.length d2) (xs:=pn) (x:=((numP F f:Nat):Int)) _ _ rfl rfl rfl rfl ((hT.alloc _).alloc _).swap ?_ ?_ ?_ ?_);(focus first|assumption|(go_keep;done)|(go_simp;done)|(refine keepN hG9 ?_ (fun e=>by have:=hls2 _ e;omega);go_simp;done));(focus omega);(focus first|omega|(simp;omega));intro A9 c9 w9 hT hG9 hb9;have hc9:=fun(b o:Nat) (h:b<w.heap.size+3)=>hb9.cell (p:=⟨b,o,none⟩) h;have hz9:=hb9.size;(try simp at hz9);simp only[Act.put,La,Lz,Lc])
            |((first|refine wp_two (B:=w.heap.size+3) (v1:=.slice B1 pa.length d1) (xs:=pa) (x:=av) _ _ rfl rfl rfl rfl hT ?_ ?_ ?_ ?_|refine wp_two (B:=w.heap.size+3) (v1:=.slice B1 pa.length d1) (xs:=pa) (x:=av) _ _ rfl rfl rfl rfl hT.swap ?_ ?_ ?_ ?_|refine wp_two (B:=w.heap.size+3) (v1:=.slice B1 pa.length d1) (xs:=pa) (x:=av) _ _ rfl rfl rfl rfl (hT.alloc _) ?_ ?_ ?_ ?_|refine wp_two (B:=w.heap.size+3) (v1:=.slice B1 pa.length d1) (xs:=pa) (x:=av) _ _ rfl rfl rfl rfl (hT.alloc _).swap ?_ ?_ ?_ ?_|refine wp_two (B:=w.heap.size+3) (v1:=.slice B1 pa.length d1) (xs:=pa) (x:=av) _ _ rfl rfl rfl rfl ((hT.alloc _).alloc _) ?_ ?_ ?_ ?_|refine wp_two (B:=w.heap.size+3) (v1:=.slice B1 pa.length d1) (xs:=pa) (x:=av) _ _ rfl rfl rfl rfl ((hT.alloc _).alloc _).swap ?_ ?_ ?_ ?_);(focus first|assumption|(go_keep;done)|(go_simp;done)|(refine keepN hG9 ?_ (fun e=>by have:=hls2 _ e;omega);go_simp;done));(focus omega);(focus first|omega|(simp;omega));intro A9 c9 w9 hT hG9 hb9;have hc9:=fun(b o:Nat) (h:b<w.heap.size+3)=>hb9.cell (p:=⟨b,o,none⟩) h;have hz9:=hb9.size;(try simp at hz9);simp only[Act.put,La,Lz,Lc])
            |(go_simp)
            refine hK.out _ _ ?hS (fun hSc=>?_)
            case hS=>
             first
             |exact hSc
             |(rw[HS0.out]at hSc ⊢;obtain⟨p0,p1,p2,p3,p4,p5,p6,p7,p8,p9⟩:=hSc;exact⟨ZC0,ZC1,ZC2,ZC3,ZC4,(by first|exact p5.trans (hb9.mono (by have:=p5.size;first|omega|(simp at this ⊢;omega)))|exact BL),ZT6,ZT7,ZT8,ZT9⟩)
             |(rw[HS0.out]at hSc ⊢;obtain⟨p0,p1,p2,p3,p4,p5,p6,p7,p8,p9⟩:=hSc;exact⟨ZC,ZC,ZC,ZC,ZC,BL,ZT,ZT,ZT,ZT⟩)
            clear hK K)
         (try(refine wpSch3_nil ?_;intro hSc hcl))
        refine wpTreeE_fork 7 15 6 rfl ZK hSc hcl ?_ ?_
        rotate_left 2
        refine wpTreeE_run [(6,1),(7,1),(17,0),(16,1)] 3 rfl ZK (fun _ _ _ _ _ h=>h) hSc hcl ?_
        rotate_left
        all_goals
         (try simp only[List.map_cons,List.map_nil,Ld,Le])
         repeat
          first
          |((with_reducible refine wpSch3_lk ?_ ?_);exact rfl;dsimp only;go_big_quiet_step (fail);(try with_reducible refine wpQuiet_nil ?_);(try dsimp only))
          |((with_reducible refine wpSch3_fr ?_ ?_);exact rfl;dsimp only;go_big_quiet_step (fail);(try with_reducible refine wpQuiet_nil ?_);(try dsimp only))
          |((with_reducible refine wpSch3_at ?_ ?_ (fun K hK=>?_))
            exact rfl;exact rfl;dsimp only
            first
            |((first|refine wp_two (B:=w.heap.size+3) (v1:=.slice B2 pn.length d2) (xs:=pn) (x:=((numP F f:Nat):Int)) _ _ rfl rfl rfl rfl hT ?_ ?_ ?_ ?_|refine wp_two (B:=w.heap.size+3) (v1:=.slice B2 pn.length d2) (xs:=pn) (x:=((numP F f:Nat):Int)) _ _ rfl rfl rfl rfl hT.swap ?_ ?_ ?_ ?_|refine wp_two (B:=w.heap.size+3) (v1:=.slice B2 pn.length d2) (xs:=pn) (x:=((numP F f:Nat):Int)) _ _ rfl rfl rfl rfl (hT.alloc _) ?_ ?_ ?_ ?_|refine wp_two (B:=w.heap.size+3) (v1:=.slice B2 pn.length d2) (xs:=pn) (x:=((numP F f:Nat):Int)) _ _ rfl rfl rfl rfl (hT.alloc _).swap ?_ ?_ ?_ ?_|refine wp_two (B:=w.heap.size+3) (v1:=.slice B2 pn.length d2) (xs:=pn) (x:=((numP F f:Nat):Int)) _ _ rfl rfl rfl rfl ((hT.alloc _).alloc _) ?_ ?_ ?_ ?_|refine wp_two (B:=w.heap.size+3) (v1:=.slice B2 pn.length d2) (xs:=pn) (x:=((numP F f:Nat):Int)) _ _ rfl rfl rfl rfl ((hT.alloc _).alloc _).swap ?_ ?_ ?_ ?_);(focus first|assumption|(go_keep;done)|(go_simp;done)|(refine keepN hG9 ?_ (fun e=>by have:=hls2 _ e;omega);go_simp;done));(focus omega);(focus first|omega|(simp;omega));intro A9 c9 w9 hT hG9 hb9;have hc9:=fun(b o:Nat) (h:b<w.heap.size+3)=>hb9.cell (p:=⟨b,o,none⟩) h;have hz9:=hb9.size;(try simp at hz9);simp only[Act.put,La,Lz,Lc])
            |((first|refine wp_two (B:=w.heap.size+3) (v1:=.slice B1 pa.length d1) (xs:=pa) (x:=av) _ _ rfl rfl rfl rfl hT ?_ ?_ ?_ ?_|refine wp_two (B:=w.heap.size+3) (v1:=.slice B1 pa.length d1) (xs:=pa) (x:=av) _ _ rfl rfl rfl rfl hT.swap ?_ ?_ ?_ ?_|refine wp_two (B:=w.heap.size+3) (v1:=.slice B1 pa.length d1) (xs:=pa) (x:=av) _ _ rfl rfl rfl rfl (hT.alloc _) ?_ ?_ ?_ ?_|refine wp_two (B:=w.heap.size+3) (v1:=.slice B1 pa.length d1) (xs:=pa) (x:=av) _ _ rfl rfl rfl rfl (hT.alloc _).swap ?_ ?_ ?_ ?_|refine wp_two (B:=w.heap.size+3) (v1:=.slice B1 pa.length d1) (xs:=pa) (x:=av) _ _ rfl rfl rfl rfl ((hT.alloc _).alloc _) ?_ ?_ ?_ ?_|refine wp_two (B:=w.heap.size+3) (v1:=.slice B1 pa.length d1) (xs:=pa) (x:=av) _ _ rfl rfl rfl rfl ((hT.alloc _).alloc _).swap ?_ ?_ ?_ ?_);(focus first|assumption|(go_keep;done)|(go_simp;done)|(refine keepN hG9 ?_ (fun e=>by have:=hls2 _ e;omega);go_simp;done));(focus omega);(focus first|omega|(simp;omega));intro A9 c9 w9 hT hG9 hb9;have hc9:=fun(b o:Nat) (h:b<w.heap.size+3)=>hb9.cell (p:=⟨b,o,none⟩) h;have hz9:=hb9.size;(try simp at hz9);simp only[Act.put,La,Lz,Lc])
            |(go_simp)
            refine hK.out _ _ ?hS (fun hSc=>?_)
            case hS=>
             first
             |exact hSc
             |(rw[HS0.out]at hSc ⊢;obtain⟨p0,p1,p2,p3,p4,p5,p6,p7,p8,p9⟩:=hSc;exact⟨ZC0,ZC1,ZC2,ZC3,ZC4,(by first|exact p5.trans (hb9.mono (by have:=p5.size;first|omega|(simp at this ⊢;omega)))|exact BL),ZT6,ZT7,ZT8,ZT9⟩)
             |(rw[HS0.out]at hSc ⊢;obtain⟨p0,p1,p2,p3,p4,p5,p6,p7,p8,p9⟩:=hSc;exact⟨ZC,ZC,ZC,ZC,ZC,BL,ZT,ZT,ZT,ZT⟩)
            clear hK K)
         (try(refine wpSch3_nil ?_;intro hSc hcl))
        refine wpTreeE_run [(17,0),(15,1),(16,1)] 3 rfl ZK (fun _ _ _ _ _ h=>h) hSc hcl ?_
        rotate_left
        refine wpTreeE_run [(7,1),(17,0),(16,1)] 3 rfl ZK (fun _ _ _ _ _ h=>h) hSc hcl ?_
        rotate_left
        rotate_left
        all_goals
         (try simp only[List.map_cons,List.map_nil,Ld,Le])
         repeat
          first
          |((with_reducible refine wpSch3_lk ?_ ?_);exact rfl;dsimp only;go_big_quiet_step (fail);(try with_reducible refine wpQuiet_nil ?_);(try dsimp only))
          |((with_reducible refine wpSch3_fr ?_ ?_);exact rfl;dsimp only;go_big_quiet_step (fail);(try with_reducible refine wpQuiet_nil ?_);(try dsimp only))
          |((with_reducible refine wpSch3_at ?_ ?_ (fun K hK=>?_))
            exact rfl;exact rfl;dsimp only
            first
            |((first|refine wp_two (B:=w.heap.size+3) (v1:=.slice B2 pn.length d2) (xs:=pn) (x:=((numP F f:Nat):Int)) _ _ rfl rfl rfl rfl hT ?_ ?_ ?_ ?_|refine wp_two (B:=w.heap.size+3) (v1:=.slice B2 pn.length d2) (xs:=pn) (x:=((numP F f:Nat):Int)) _ _ rfl rfl rfl rfl hT.swap ?_ ?_ ?_ ?_|refine wp_two (B:=w.heap.size+3) (v1:=.slice B2 pn.length d2) (xs:=pn) (x:=((numP F f:Nat):Int)) _ _ rfl rfl rfl rfl (hT.alloc _) ?_ ?_ ?_ ?_|refine wp_two (B:=w.heap.size+3) (v1:=.slice B2 pn.length d2) (xs:=pn) (x:=((numP F f:Nat):Int)) _ _ rfl rfl rfl rfl (hT.alloc _).swap ?_ ?_ ?_ ?_|refine wp_two (B:=w.heap.size+3) (v1:=.slice B2 pn.length d2) (xs:=pn) (x:=((numP F f:Nat):Int)) _ _ rfl rfl rfl rfl ((hT.alloc _).alloc _) ?_ ?_ ?_ ?_|refine wp_two (B:=w.heap.size+3) (v1:=.slice B2 pn.length d2) (xs:=pn) (x:=((numP F f:Nat):Int)) _ _ rfl rfl rfl rfl ((hT.alloc _).alloc _).swap ?_ ?_ ?_ ?_);(focus first|assumption|(go_keep;done)|(go_simp;done)|(refine keepN hG9 ?_ (fun e=>by have:=hls2 _ e;omega);go_simp;done));(focus omega);(focus first|omega|(simp;omega));intro A9 c9 w9 hT hG9 hb9;have hc9:=fun(b o:Nat) (h:b<w.heap.size+3)=>hb9.cell (p:=⟨b,o,none⟩) h;have hz9:=hb9.size;(try simp at hz9);simp only[Act.put,La,Lz,Lc])
            |((first|refine wp_two (B:=w.heap.size+3) (v1:=.slice B1 pa.length d1) (xs:=pa) (x:=av) _ _ rfl rfl rfl rfl hT ?_ ?_ ?_ ?_|refine wp_two (B:=w.heap.size+3) (v1:=.slice B1 pa.length d1) (xs:=pa) (x:=av) _ _ rfl rfl rfl rfl hT.swap ?_ ?_ ?_ ?_|refine wp_two (B:=w.heap.size+3) (v1:=.slice B1 pa.length d1) (xs:=pa) (x:=av) _ _ rfl rfl rfl rfl (hT.alloc _) ?_ ?_ ?_ ?_|refine wp_two (B:=w.heap.size+3) (v1:=.slice B1 pa.length d1) (xs:=pa) (x:=av) _ _ rfl rfl rfl rfl (hT.alloc _).swap ?_ ?_ ?_ ?_|refine wp_two (B:=w.heap.size+3) (v1:=.slice B1 pa.length d1) (xs:=pa) (x:=av) _ _ rfl rfl rfl rfl ((hT.alloc _).alloc _) ?_ ?_ ?_ ?_|refine wp_two (B:=w.heap.size+3) (v1:=.slice B1 pa.length d1) (xs:=pa) (x:=av) _ _ rfl rfl rfl rfl ((hT.alloc _).alloc _).swap ?_ ?_ ?_ ?_);(focus first|assumption|(go_keep;done)|(go_simp;done)|(refine keepN hG9 ?_ (fun e=>by have:=hls2 _ e;omega);go_simp;done));(focus omega);(focus first|omega|(simp;omega));intro A9 c9 w9 hT hG9 hb9;have hc9:=fun(b o:Nat) (h:b<w.heap.size+3)=>hb9.cell (p:=⟨b,o,none⟩) h;have hz9:=hb9.size;(try simp at hz9);simp only[Act.put,La,Lz,Lc])
            |(go_simp)
            refine hK.out _ _ ?hS (fun hSc=>?_)
            case hS=>
             first
             |exact hSc
             |(rw[HS0.out]at hSc ⊢;obtain⟨p0,p1,p2,p3,p4,p5,p6,p7,p8,p9⟩:=hSc;exact⟨ZC0,ZC1,ZC2,ZC3,ZC4,(by first|exact p5.trans (hb9.mono (by have:=p5.size;first|omega|(simp at this ⊢;omega)))|exact BL),ZT6,ZT7,ZT8,ZT9⟩)
             |(rw[HS0.out]at hSc ⊢;obtain⟨p0,p1,p2,p3,p4,p5,p6,p7,p8,p9⟩:=hSc;exact⟨ZC,ZC,ZC,ZC,ZC,BL,ZT,ZT,ZT,ZT⟩)
            clear hK K)
         (try(refine wpSch3_nil ?_;intro hSc hcl))
        all_goals
         refine wpTreeE_end [18,19,20] rfl ZK ?_;simp only[List.map_cons,List.map_nil,Ld,Le];rw[HS0.out]at hSc;obtain⟨p0,p1,p2,p3,p4,p5,p6,p7,p8,p9⟩:=hSc;clear hne0 hneT hcl HS0 k0 k1 k2 k3 k4 k5 k6 k7 k8 k9;have y9:BoxAt w9 (w.heap.size+2) _ _:=hx.below p5 ZO;have h9:Below (w.heap.size+3) wr w9:=p5;have f1:w9.frozen? ⟨w.heap.size+2,1,none⟩=false:=y9.frozen 1;have f2:w9.frozen? ⟨w.heap.size+2,2,none⟩=false:=y9.frozen 2;have e1:=y9.cell 1;have e2:=y9.cell 2;have l9:=y9.lt;simp at e1 e2;clear p0 p1 p2 p3 p4 p5 p6 p7 p8 p9 hG9 hb9 hc9 hz9;go_wp2_with fail;go_roundw
         (case rel=>refine⟨k+1,?_,?_,?_,?_,ZN,ZO,?_,?_,?_⟩;rotate_left 4;(· rw[HLN.out,HLA.out,EN'.out,EA.out];first|exact(hT.set (a:=⟨w.heap.size+2,2,none⟩) ZS _).set (a:=⟨w.heap.size+2,1,none⟩) ZS _|exact(hT.swap.set (a:=⟨w.heap.size+2,2,none⟩) ZS _).set (a:=⟨w.heap.size+2,1,none⟩) ZS _);(· rw[HLN.out,HLA.out];exact y9.put21);(· exact((hb.trans (h9.mono ZO)).setCell ZX _).setCell ZX _))
         (case measure=>simp[intOf];omega)
      · have hkp:keepF F i (f:Int)=false:=by rw[hk2];simp[hge]
        have EA:=Lh (HA0.out hkp);have EN':=Lh (HN0.out hkp);have hge2:¬0≤ith nums f:=hge;clear hct hk2 hk3 HA0 HN0 HA1 HN1 hkp;go_wp2_with(go_at_call 97;refine hcon.mono ?_;rintro e w9 ⟨rfl,hw9⟩;subst w9);go_roundw
        case rel=>exact⟨k+1,B1,B2,d1,d2,ZN,ZO,by rw[EA.out,EN'.out];exact hT,by rw[EA.out,EN'.out];exact hx,hb⟩
        case measure=>simp[intOf];omega
  · obtain rfl:k=x.froms.length:=by omega
    have q10:=hx.cell 0;simp at q10;have y2:=y1.cell 0;have y3:=y1.cell 1;have y4:=y1.cell 2;have f0:=y1.frozen 0;have f1:=y1.frozen 1;have f2:=y1.frozen 2;have l1:=y1.lt;simp at y2 y3 y4;go_wp2;have hz:=y1.set3 (a:=.int .i64 x.dst) (b:=.slice B1 (prA F i x x.froms.length).length d1) (c:=.slice B2 (prN F i x x.froms.length).length d2);have z0:=hz.cell 0;have z1:=hz.cell 1;have z2:=hz.cell 2;simp only[List.getElem?_toArray,List.getElem?_cons_zero,List.getElem?_cons_succ]at z0 z1 z2;have hTz:=((hT.set (a:=⟨w.heap.size+1,0,none⟩) ZS (.int .i64 x.dst)).set (a:=⟨w.heap.size+1,1,none⟩) ZS (.slice B1 (prA F i x x.froms.length).length d1)).set (a:=⟨w.heap.size+1,2,none⟩) ZS (.slice B2 (prN F i x x.froms.length).length d2);have hBz:=((hBr.setCell (p:=⟨w.heap.size+1,0,none⟩) ZS (.int .i64 x.dst)).setCell (p:=⟨w.heap.size+1,1,none⟩) ZS (.slice B1 (prA F i x x.froms.length).length d1)).setCell (p:=⟨w.heap.size+1,2,none⟩) ZS (.slice B2 (prN F i x x.froms.length).length d2);exact bodyPost_ret (v:=.agg #[.int .i64 x.dst,.slice B1 (prA F i x x.froms.length).length d1,.slice B2 (prN F i x x.froms.length).length d2]) (by simp[results,Tryz.results67,go_sem,z0,z1,z2]) rfl ⟨_,_,rfl,⟨own_rebase hTz.1 ZO,own_rebase hTz.2.1 ZO,hTz.2.2⟩,hBz⟩
theorem Tryz.info78:(Tryz.prog.info? 78).map (fun i=>(i.zero,i.size,i.bytes))=some (some (.agg #[.string ByteArray.empty,.int .i64 0]),2,24):=by kernel_rfl
def cellsV(x:PVar):List Value:=[.string x.name,.int .i64 x.ty]
theorem cellsV_flat{xs:List PVar}:(xs.map cellsV).flatten.length=xs.length*2:=by
 rw[List.length_flatten,List.map_map]
 induction xs with
 |nil=>rfl
 |cons x xs ih=>simp only[List.map_cons,List.sum_cons,List.length_cons,ih,Function.comp];simp[cellsV];omega
set_option maxHeartbeats 2000000 in
theorem cloneV_calls{B:Nat}{w:World}{A:Option Addr}{c:Nat}{xs:List PVar}(hr:Rd B A xs 2 (VarC w))(hl:xs.length≤1048576) :
 Calls Tryz.prog 70 #[.slice A xs.length c] w fun e w'=>∃v',e=.returned v'∧RRow w' w.heap.size 78 2 CVar v' xs∧Below w.heap.size w w':=by
 have q22:∀(w:World) (a:Option Addr) (n c n' c':Nat),(binOp .eql 22 (.slice a n c) (.slice none n' c')).run Tryz.prog w=.ok (.bool a.isNone) w:=fun w a n c n' c'=>Lib.run_eql_slice_nil w _ _ a n c n' c' Tryz.underlying22
 cases A with
 |none=>
  have hx:xs=[]:=by
   cases xs with
   |nil=>rfl
   |cons x xs=>
    obtain⟨b,off,h,-⟩:=hr 0 x rfl;cases h
  subst hx;clear hr;go_enter Tryz.func70,Tryz.ntmps70;go_wp2;go_ret;exact⟨_,rfl,RRow.nil,Br _ _⟩
 |some a=>
  obtain⟨i0,hi,hz0,hz1,hz2⟩:=info_parts Tryz.info78;have hc:∀j u,(xs.map cellsV).flatten[j]?=some u→w.cell? (a.add j)=some u:=by
   intro j u hj;have hjl:=(List.getElem?_eq_some_iff.1 hj).1;rw[cellsV_flat]at hjl;obtain⟨i,k,hk,rfl⟩:∃i k,k<2∧j=i*2+k:=⟨j / 2,j%2,Nat.mod_lt _ ZD,ZO⟩;have hix:xs[i]?=some (xs[i]'(ZO)):=by simp
   obtain⟨b,off,ha,hb,hn,h0,h1⟩:=hr i _ hix;cases ha;rw[flat_at (sz:=2) (i:=i) (j:=k) (cs:=cellsV (xs[i]'(ZO))) (fun c hc=>by simp at hc;obtain⟨x,-,rfl⟩:=hc;rfl) (by rw[List.getElem?_map,hix];rfl) hk]at hj;rw[Addr.add_lit];rcases(show k=0∨k=1 from ZO)with rfl|rfl
   · rw[Nat.add_zero,h0];simpa[cellsV]using hj
   · rw[show off+(i*2+1)=off+i*2+1 from ZO,h1];simpa[cellsV]using hj
  have h1:∀u∈(xs.map cellsV).flatten,u.oneCell'=true:=by
   intro u hu;obtain⟨c,hc,hu⟩:=List.mem_flatten.1 hu;obtain⟨x,-,rfl⟩:=List.mem_map.1 hc;simp[cellsV]at hu;rcases hu with rfl|rfl<;>rfl
  have hlen:=cellsV_flat (xs:=xs);have hbv:∀(i:Nat) cs x,(xs.map cellsV)[i]?=some cs→xs[i]?=some x→cs.length=2∧CVar cs x:=by
   intro i cs x h1 h2;obtain⟨b,off,ha,hb,hn,-⟩:=hr i x h2;simp[h2]at h1;subst h1;exact⟨rfl,hn,rfl⟩
  replace hbv:=Lh hbv;have HC:=Lh hc;clear hr hc;have HLC:=Lh (show(xs.map cellsV).length=xs.length from ZS);generalize (xs.map cellsV)=ch at *;generalize hcells:ch.flatten=cells at *;have HCL:=Lh hcells;clear hcells;go_enter Tryz.func70,Tryz.ntmps70;go_wp2_with(at_builtin;refine wpList_append_own _ rfl _ _ 22 rfl w.heap.size 78 i0 _ 2 24 Tryz.underlying22 hi hz0 hz1 hz2 rfl ZD _ _ _ rfl (World.ownsRow_made w #[] 0 (Nr _) (Nz _) ZS) a xs.length c cells rfl hlen ?qc2 h1 (by unfold maxLen;omega) ZO ZS ?_)
  case qc2=>
   intro j u hj;exact Lib.cell?_alloc_some _ (HC.out j u hj)
  intro v' w1 hown hgrow hnil;go_wp2;go_ret;refine⟨v',rfl,⟨ch,HLC.out,hbv.out,?_⟩,?_⟩
  · rw[HCL.out];simpa using hown
  · exact((Br _ w).alloc (Nr _) _).grown hgrow ZS (by intro k hk;simp[Value.ownBlock]at hk;omega)
theorem Rd.moveV{W w:World}{A:Option Addr}{xs:List PVar}(h:Rd W.heap.size A xs 2 (VarC W))(hw:Below W.heap.size W w):Rd w.heap.size A xs 2 (VarC w):=by
 intro i x hx;obtain⟨b,off,ha,hb,hn,h0,h1⟩:=h i x hx;exact⟨b,off,ha,Nt hb hw.size,hn,(hw.cell (p:=⟨b,off+i*2,none⟩) hb).trans h0,(hw.cell (p:=⟨b,off+i*2+1,none⟩) hb).trans h1⟩
theorem Rd.moveB{W w:World}{A:Option Addr}{xs:List Int}(h:Rd W.heap.size A xs 1 (IntC W))(hw:Below W.heap.size W w):Rd W.heap.size A xs 1 (IntC w):=by
 intro i x hx;obtain⟨b,off,ha,hb,hr⟩:=h i x hx;refine⟨b,off,ha,hb,?_⟩;unfold IntC at *;rw[hw.cell (p:=⟨b,off+i*1,none⟩) hb];exact hr
def NT(ts:List TypeId)(w:World)(b:Nat):Prop:=∃cs t,w.heap[b]?=some (.cells cs t (0,0))∧t∈ts
theorem own_nt{w:World}{base e sz n:Nat}{v:Value}{xs:List Value}{ts:List TypeId}(h:w.ownsRow base e sz v n xs)(he:e∈ts):∀b,base≤b→v.ownBlock=some b→NT ts w b:=by
 intro b _ hb;rcases h.2 with⟨rfl,-⟩|⟨g,cap,cur,rfl,-,hh,-⟩
 · cases hb
 · cases hb
   exact⟨cur,e,hh,he⟩
structure KT (ts:List TypeId) (w w':World):Prop where
 size:w.heap.size≤w'.heap.size
 blk:∀b,NT ts w b→w'.heap[b]?=w.heap[b]?
section
variable {ts ts':List TypeId} {a w w':World}
theorem NT.lt{b:Nat}(h:NT ts w b):b<w.heap.size:=by
 obtain⟨cs,t,h,-⟩:=h;exact(Array.getElem?_eq_some_iff.1 h).1
theorem NT.mono{b:Nat}(h:NT ts w b)(hs:∀t∈ts,t∈ts'):NT ts' w b:=by
 obtain⟨cs,t,h,ht⟩:=h;exact⟨cs,t,h,hs t ht⟩
theorem NT.same{b:Nat}(h:NT ts w b)(hs:w'.heap[b]?=w.heap[b]?):NT ts w' b:=by
 obtain⟨cs,t,h,ht⟩:=h;exact⟨cs,t,hs.trans h,ht⟩
theorem KT.refl:KT ts w w:=⟨Nr _,fun _ _=>rfl⟩
theorem KT.trans(h:KT ts a w)(h':KT ts w w'):KT ts a w':=⟨Nat.le_trans h.size h'.size,fun b hb=>(h'.blk b (hb.same (h.blk b hb))).trans (h.blk b hb)⟩
theorem KT.of_below(h:Below w.heap.size w w'):KT ts w w':=⟨h.size,fun b hb=>h.block b hb.lt⟩
theorem KT.alloc(h:KT ts a w)(o:Obj):KT ts a (w.alloc o):=h.trans (KT.of_below ((Br _ _).alloc (Nr _) _))
theorem KT.setCell(h:KT ts a w){g j:Nat}{cs:Array Value}{t:TypeId}(hg:BoxAt w g cs t)(ht:t∉ts)(v:Value):KT ts a (w.setCell ⟨g,j,none⟩ v):=
 h.trans ⟨ZS,fun b hb=>heap_set (by
  rintro rfl;obtain⟨cs',t',h1,h2⟩:=hb;unfold BoxAt at hg;rw[hg]at h1;cases h1
  exact ht h2)⟩
theorem KT.grown(h:KT ts a w){base e sz n:Nat}{v:Value}{xs:List Value}(ho:w.ownsRow base e sz v n xs)(he:e∉ts)(hg:w.grownBy w' v.ownBlock):KT ts a w':=
 h.trans ⟨hg.size,fun b hb=>hg.block b hb.lt (fun e2=>by
  obtain⟨cs',t',h1,h2⟩:=hb;rcases ho.2 with⟨rfl,-⟩|⟨g,cap,cur,rfl,-,hh,-⟩
  · cases e2
  · cases e2
    rw[hh]at h1;cases h1
    exact he h2)⟩
theorem KT.tr(h:KT ts w w')(hs:∀t∈ts',t∈ts):Tr (NT ts' w) (NT ts' w') w w':=⟨h.size,fun b hb _=>⟨h.blk b (hb.mono hs),hb.same (h.blk b (hb.mono hs))⟩⟩
theorem RRow.kt{α:Type}{base sz:Nat}{e:TypeId}{C C':List Value→α→Prop}{v:Value}{xs:List α}(h:RRow w base e sz C v xs)(hk:KT ts w w')(he:e∈ts)(hC:∀cs x,C cs x→C' cs x):RRow w' base e sz C' v xs:=by
 obtain⟨cells,ho⟩:=h.own;exact h.turn (fun k hv=>hk.blk k (own_nt ho he k (own_lt ho hv).1 hv)) hC
end
theorem own_kt{ts:List TypeId}{w w':World}{base e sz n:Nat}{v:Value}{xs:List Value}(h:w.ownsRow base e sz v n xs)(hk:KT ts w w')(he:e∈ts):w'.ownsRow base e sz v n xs:=
 own_turn h fun k hv=>hk.blk k (own_nt h he k (own_lt h hv).1 hv)
theorem take_phi{b:PBlock}{k:Nat}(h:k<b.phis.length):b.phis.take (k+1)=b.phis.take k++[b.phi k]:=by
 rw[List.take_add_one,PBlock.phi_get h];rfl
theorem take_inst{b:PBlock}{k:Nat}(h:k<b.insts.length):b.insts.take (k+1)=b.insts.take k++[b.inst k]:=by
 rw[List.take_add_one,PBlock.inst_get h];rfl
theorem Tryz.info64:(Tryz.prog.info? 64).map (fun i=>(i.zero,i.size,i.bytes))=some (some (.agg #[.int .i64 0,.slice none 0 0,.slice none 0 0]),3,56):=by kernel_rfl
theorem Tryz.info67:(Tryz.prog.info? 67).map (fun i=>(i.zero,i.size,i.bytes))=some (some (.agg #[.int .i64 0,.int .i64 0,.slice none 0 0,.int .i64 0]),4,48):=by kernel_rfl
theorem Tryz.info62:(Tryz.prog.info? 62).map (fun i=>(i.zero,i.size,i.bytes))=some (some (.agg #[.string ByteArray.empty,.slice none 0 0,.slice none 0 0,.int .i64 0,.int .i64 0,.int .i64 0,.int .i64 0]),7,96):=by kernel_rfl
def CPh(w:World):List Value→PPhi→Prop:=CPhi w (NT [3] w)
def CIn(w:World):List Value→PInst→Prop:=CInst w (NT [3] w)
def CBO(w:World)(base:Nat)(cs:List Value)(x:PBlock×Value×Value):Prop:=
 cs=[.string x.1.name,x.2.1,x.2.2,.int .i64 x.1.term.kind,.int .i64 x.1.term.var,.int .i64 x.1.term.t0,.int .i64 x.1.term.t1]∧x.1.name.size≤maxLen∧
  RRow w base 64 3 (CPh w) x.2.1 x.1.phis∧RRow w base 67 4 (CIn w) x.2.2 x.1.insts
theorem CPh.kt{ts:List TypeId}{w w':World}(hk:KT ts w w')(hi:3∈ts){cs:List Value}{x:PPhi}(h:CPh w cs x):CPh w' cs x:=CPhi.turn h (hk.tr (by simpa using hi))
theorem CIn.kt{ts:List TypeId}{w w':World}(hk:KT ts w w')(hi:3∈ts){cs:List Value}{x:PInst}(h:CIn w cs x):CIn w' cs x:=CInst.turn h (hk.tr (by simpa using hi))
theorem CBO.kt{ts:List TypeId}{w w':World}{base:Nat}(hk:KT ts w w')(hi:3∈ts)(hp:64∈ts)(hn:67∈ts){cs:List Value}{x:PBlock×Value×Value}(h:CBO w base cs x):CBO w' base cs x:=
 ⟨h.1,h.2.1,h.2.2.1.kt hk hp fun _ _ h=>h.kt hk hi,h.2.2.2.kt hk hn fun _ _ h=>h.kt hk hi⟩
def Before(x y:PBlock×Value×Value):Prop:=(∀k l,x.2.1.ownBlock=some k→y.2.1.ownBlock=some l→k<l)∧∀k l,x.2.2.ownBlock=some k→y.2.2.ownBlock=some l→k<l
def bcells(F:PFunc)(n:Nat)(A3:Option Addr)(c3:Nat)(A4:Option Addr)(c4:Nat):Array Value:=#[.string (F.blk n).name,.slice A3 (F.blk n).phis.length c3,.slice A4 (F.blk n).insts.length c4,.int .i64 (F.blk n).term.kind,.int .i64 (F.blk n).term.var,.int .i64 (F.blk n).term.t0,.int .i64 (F.blk n).term.t1]
theorem RRow.all_{α:Type}{w:World}{base sz:Nat}{e:TypeId}{C:List Value→α→Prop}{v:Value}{xs:List α}(h:RRow w base e sz C v xs):∀x∈xs,∃cs,C cs x:=by
 obtain⟨ch,hl,hc,-⟩:=h;intro x hx;obtain⟨i,hi,rfl⟩:=List.getElem_of_mem hx;exact⟨ch[i]'(ZO),(hc i _ _ (by simp[hl,hi]) (by simp[hi])).2⟩
def Apart(v v':Value):Prop:=∀k,v.ownBlock=some k→v'.ownBlock≠some k
theorem Apart.symm{v v':Value}(h:Apart v v'):Apart v' v:=fun k h1 h2=>h k h2 h1
def OwnI(w:World)(base:Nat)(v:Value)(xs:List Int):Prop:=w.ownsRow base 3 1 v xs.length (xs.map (Value.int .i64))∧xs.length≤1048576
def CPhS(w:World)(base:Nat)(cs:List Value)(x:PPhi×Value×Value):Prop:=cs=[.int .i64 x.1.dst,x.2.1,x.2.2]∧OwnI w base x.2.1 x.1.args∧OwnI w base x.2.2 x.1.froms
def CInS(w:World)(base:Nat)(cs:List Value)(x:PInst×Value):Prop:=cs=[.int .i64 x.1.op,.int .i64 x.1.dst,x.2,.int .i64 x.1.num]∧OwnI w base x.2 x.1.args
structure XBlk where
 b:PBlock
 vp:Value
 vi:Value
 es:List (PPhi×Value×Value)
 is:List (PInst×Value)
def rowsP(es:List (PPhi×Value×Value)):List Value:=es.flatMap fun e=>[e.2.1,e.2.2]
def rowsI(is:List (PInst×Value)):List Value:=is.map Prod.snd
def XBlk.rows(x:XBlk):List Value:=rowsP x.es++rowsI x.is
def XBlk.old(x:XBlk):PBlock×Value×Value:=(x.b,x.vp,x.vi)
structure CBS (w:World) (base:Nat) (cs:List Value) (x:XBlk):Prop where
 cs:cs=[.string x.b.name,x.vp,x.vi,.int .i64 x.b.term.kind,.int .i64 x.b.term.var,.int .i64 x.b.term.t0,.int .i64 x.b.term.t1]
 nm:x.b.name.size≤maxLen
 me:x.es.map Prod.fst=x.b.phis
 mi:x.is.map Prod.fst=x.b.insts
 hp:RRow w base 64 3 (CPhS w base) x.vp x.es
 hi:RRow w base 67 4 (CInS w base) x.vi x.is
 ap:x.rows.Pairwise Apart
structure BeforeX (x y:XBlk):Prop where
 vp:∀k l,x.vp.ownBlock=some k→y.vp.ownBlock=some l→k<l
 vi:∀k l,x.vi.ownBlock=some k→y.vi.ownBlock=some l→k<l
 rw:∀v∈x.rows,∀u∈y.rows,∀k l,v.ownBlock=some k→u.ownBlock=some l→k<l
section
variable {w w':World} {base B:Nat} {ts:List TypeId} {v:Value} {cs:List Value}
theorem OwnI.kt{xs:List Int}(h:OwnI w base v xs)(hk:KT ts w w')(hi:3∈ts):OwnI w' base v xs:=⟨own_kt h.1 hk hi,h.2⟩
theorem OwnI.rebase{xs:List Int}(h:OwnI w base v xs)(hB:B≤base):OwnI w B v xs:=⟨own_rebase h.1 hB,h.2⟩
theorem OwnI.dints{xs:List Int}(h:OwnI w base v xs):DInts w (NT [3] w) v xs:=DInts.of_own h.1 h.2 (own_nt h.1 ZS)
theorem CPhS.kt{x:PPhi×Value×Value}(h:CPhS w base cs x)(hk:KT ts w w')(hi:3∈ts):CPhS w' base cs x:=⟨h.1,h.2.1.kt hk hi,h.2.2.kt hk hi⟩
theorem CInS.kt{x:PInst×Value}(h:CInS w base cs x)(hk:KT ts w w')(hi:3∈ts):CInS w' base cs x:=⟨h.1,h.2.kt hk hi⟩
theorem CPhS.rebase{x:PPhi×Value×Value}(h:CPhS w base cs x)(hB:B≤base):CPhS w B cs x:=⟨h.1,h.2.1.rebase hB,h.2.2.rebase hB⟩
theorem CInS.rebase{x:PInst×Value}(h:CInS w base cs x)(hB:B≤base):CInS w B cs x:=⟨h.1,h.2.rebase hB⟩
theorem RRow.map{α β:Type}{e sz:Nat}{C:List Value→α→Prop}{C':List Value→β→Prop}{xs:List α}(f:α→β)(h:RRow w base e sz C v xs)(hC:∀cs x,C cs x→C' cs (f x)):RRow w base e sz C' v (xs.map f):=by
 obtain⟨ch,hl,hc,hr⟩:=h;refine⟨ch,by rw[List.length_map];exact hl,fun i cs x h1 h2=>?_,by rw[List.length_map];exact hr⟩;rw[List.getElem?_map]at h2;obtain⟨y,hy,rfl⟩:=Option.map_eq_some_iff.1 h2;exact⟨(hc i cs y h1 hy).1,hC _ _ (hc i cs y h1 hy).2⟩
theorem RRow.imp{α:Type}{e sz:Nat}{C C':List Value→α→Prop}{xs:List α}(h:RRow w base e sz C v xs)(hC:∀cs x,C cs x→C' cs x):RRow w base e sz C' v xs:=h.turn (fun _ _=>rfl) hC
theorem CBS.kt{x:XBlk}(h:CBS w base cs x)(hk:KT ts w w')(hi:3∈ts)(hp:64∈ts)(hn:67∈ts):CBS w' base cs x:=
 ⟨h.cs,h.nm,h.me,h.mi,h.hp.kt hk hp fun _ _ h=>h.kt hk hi,h.hi.kt hk hn fun _ _ h=>h.kt hk hi,h.ap⟩
theorem CBS.rebase{x:XBlk}(h:CBS w base cs x)(hB:B≤base):CBS w B cs x:=
 ⟨h.cs,h.nm,h.me,h.mi,(h.hp.rebase hB).imp fun _ _ h=>h.rebase hB,(h.hi.rebase hB).imp fun _ _ h=>h.rebase hB,h.ap⟩
theorem CBS.old{x:XBlk}(h:CBS w base cs x):CBO w base cs x.old:=by
 refine⟨h.cs,h.nm,?_,?_⟩
 · show RRow w base 64 3 (CPh w) x.vp x.b.phis
   rw[← h.me];exact h.hp.map _ fun cs e h=>⟨_,_,h.1,h.2.1.dints,h.2.2.dints⟩
 · show RRow w base 67 4 (CIn w) x.vi x.b.insts
   rw[← h.mi];exact h.hi.map _ fun cs e h=>⟨_,h.1,h.2.dints⟩
theorem BeforeX.old{x y:XBlk}(h:BeforeX x y):Before x.old y.old:=⟨h.vp,h.vi⟩
theorem rowsP_lt{es:List (PPhi×Value×Value)}(h:RRow w base 64 3 (CPhS w base) v es):∀u∈rowsP es,∀k,u.ownBlock=some k→base≤k∧k<w.heap.size:=fun u hu k hk=>by
 obtain⟨e,he,hu⟩:=List.mem_flatMap.1 hu;obtain⟨cs,-,h1,h2⟩:=h.all_ e he;simp only[List.mem_cons,List.not_mem_nil,or_false]at hu;rcases hu with rfl|rfl
 · exact own_lt h1.1 hk
 · exact own_lt h2.1 hk
theorem rowsI_lt{is:List (PInst×Value)}(h:RRow w base 67 4 (CInS w base) v is):∀u∈rowsI is,∀k,u.ownBlock=some k→base≤k∧k<w.heap.size:=fun u hu k hk=>by
 obtain⟨e,he,rfl⟩:=List.mem_map.1 hu;obtain⟨cs,-,h1⟩:=h.all_ e he;exact own_lt h1.1 hk
theorem rows_lt{x:XBlk}(h:CBS w base cs x):∀u∈x.rows,∀k,u.ownBlock=some k→base≤k∧k<w.heap.size:=fun u hu k hk=>by
 rcases List.mem_append.1 hu with hu|hu
 · exact rowsP_lt h.hp u hu k hk
 · exact rowsI_lt h.hi u hu k hk
theorem rowsP_snoc{es:List (PPhi×Value×Value)}{x:PPhi}{a f:Value}(h:(rowsP es).Pairwise Apart)(ha:∀u∈rowsP es,Apart u a)(hf:∀u∈rowsP es,Apart u f)(haf:Apart a f):(rowsP (es++[(x,a,f)])).Pairwise Apart:=by
 unfold rowsP at *;rw[List.flatMap_append];refine List.pairwise_append.2 ⟨h,by simpa using haf,fun u hu y hy=>?_⟩;simp at hy;rcases hy with rfl|rfl
 · exact ha u hu
 · exact hf u hu
theorem rowsX_snoc{es:List (PPhi×Value×Value)}{is:List (PInst×Value)}{x:PInst}{a:Value}(h:(rowsP es++rowsI is).Pairwise Apart)(ha:∀u∈rowsP es++rowsI is,Apart u a):(rowsP es++rowsI (is++[(x,a)])).Pairwise Apart:=by
 have e:rowsP es++rowsI (is++[(x,a)])=(rowsP es++rowsI is)++[a]:=by simp[rowsI]
 rw[e];exact List.pairwise_append.2 ⟨h,List.pairwise_singleton _ _,fun u hu y hy=>by rw[List.mem_singleton]at hy;subst hy;exact ha u hu⟩
end
theorem fill7(z0 z1 z2 z3 z4 z5 z6 a0 a1 a2 a3 a4 a5 a6:Value):Instr.fill (fun i=>some (i*7,7)) ((Array.range (1*7)).map ((Value.agg #[z0,z1,z2,z3,z4,z5,z6]).cells[·%(Value.agg #[z0,z1,z2,z3,z4,z5,z6]).cells.size]!)) [(0,.agg #[a0,a1,a2,a3,a4,a5,a6])]=some #[a0,a1,a2,a3,a4,a5,a6]:=by
 kernel_rfl
theorem wpList_one7{P:Program}{ops:Array Oper}{rest:List Oper}{o:Oper}{a:Act}{w:World}{Q:Exit→Act→World→Prop}(hg:o.guard=none)(t e:TypeId)(x:Operand)(ho:o.op=.buildSlice t 1 #[(0,x)]){by_:Nat}{z0 z1 z2 z3 z4 z5 z6 a0 a1 a2 a3 a4 a5 a6:Value}
 (hu:P.underlying t=some (.slice e)) (hinf:(P.info? e).map (fun i=>(i.zero,i.size,i.bytes))=some (some (.agg #[z0,z1,z2,z3,z4,z5,z6]),7,by_)) (hx:a.eval x=.agg #[a0,a1,a2,a3,a4,a5,a6])
 (h:wpList P ops Q rest (a.put o.dst (.slice (some ⟨w.heap.size,0,none⟩) 1 1)) (w.alloc (.cells #[a0,a1,a2,a3,a4,a5,a6] e))):wpList P ops Q (o::rest) a w:=by
 obtain⟨i,hi,hz,hsz,-⟩:=info_parts hinf;refine Go.wpList_buildSlice hg t e 1 #[(0,x)] ho #[a0,a1,a2,a3,a4,a5,a6] i _ hu hi hz (by rw[hsz];decide) (by rw[hsz];decide) ?_ h;rw[hsz];simp only[List.map_toArray,List.map_cons,List.map_nil,hx];exact fill7 z0 z1 z2 z3 z4 z5 z6 a0 a1 a2 a3 a4 a5 a6
theorem phis_of{w:World}{base:Nat}{v:Value}{xs:List PPhi}(h:RRow w base 64 3 (CPh w) v xs)(hn:xs.length≤1048576):SPhis w w.heap.size v xs:=
 DRow.rd (h.done (D:=fun _=>True) hn (fun _ _ _=>trivial)) (fun _ h _=>h) fun b o cs x _ _ hc e=>by
  obtain⟨v1,v2,rfl,h1,h2⟩:=e;exact⟨hc 0 _ rfl,⟨v1,hc 1 _ rfl,h1.rd fun _ h _=>h⟩,v2,hc 2 _ rfl,h2.rd fun _ h _=>h⟩
theorem insts_of{w:World}{base:Nat}{v:Value}{xs:List PInst}(h:RRow w base 67 4 (CIn w) v xs)(hn:xs.length≤1048576):SInsts w w.heap.size v xs:=
 DRow.rd (h.done (D:=fun _=>True) hn (fun _ _ _=>trivial)) (fun _ h _=>h) fun b o cs x _ _ hc e=>by
  obtain⟨v1,rfl,h1⟩:=e;exact⟨hc 0 _ rfl,hc 1 _ rfl,⟨v1,hc 2 _ rfl,h1.rd fun _ h _=>h⟩,hc 3 _ rfl⟩
theorem blks_of{w:World}{base:Nat}{v:Value}{ps:List (PBlock×Value×Value)}(h:RRow w base 62 7 (CBO w base) v ps)(hn:ps.length≤1048576)
 (hp:∀p∈ps,p.1.phis.length≤1048576∧p.1.insts.length≤1048576):SBlks w w.heap.size v (ps.map Prod.fst):=by
 obtain⟨A,c,rfl,hl,hc,hr⟩:=h.done (D:=fun _=>True) hn (fun _ _ _=>trivial);refine⟨A,c,by rw[List.length_map],by rw[List.length_map];exact hl,by rw[List.length_map];exact hc,fun i x hx=>?_⟩;rw[List.getElem?_map]at hx;obtain⟨p,hx2,rfl⟩:=Option.map_eq_some_iff.1 hx;obtain⟨b,off,cs,ha,-,hb,-,hcells,rfl,hz,h1,h2⟩:=hr i p hx2;have hm:=hp p (List.mem_of_getElem? hx2);exact⟨b,off,ha,hb,hz,hcells 0 _ rfl,⟨_,hcells 1 _ rfl,phis_of h1 hm.1⟩,⟨_,hcells 2 _ rfl,insts_of h2 hm.2⟩,hcells 3 _ rfl,hcells 4 _ rfl,hcells 5 _ rfl,hcells 6 _ rfl⟩
theorem fn_of{w:World}{base:Nat}{vv vp vb:Value}{F:PFunc}{ps:List (PBlock×Value×Value)}(hV:RRow w base 78 2 CVar vv F.vars)(hP:w.ownsRow base 3 1 vp F.params.length (F.params.map (Value.int .i64)))
 (hR:RRow w base 62 7 (CBO w base) vb ps) (he:ps.map Prod.fst=F.blocks) (hB:Bnd F):FnV w w.heap.size (.agg #[vv,vp,vb]) F:=by
 refine⟨vv,vp,vb,rfl,DVars.rd (D:=fun _=>True) (hV.done (by have:=hB.vars;omega) (fun _ _ _=>trivial)) (fun _ h _=>h),DInts.rd (D:=fun _=>True) (DInts.of_own hP (by have:=hB.params;omega) (fun _ _ _=>trivial)) (fun _ h _=>h),?_⟩;rw[← he];refine blks_of hR (by have:=hB.blocks;rw[← he,List.length_map]at this;omega) fun p hp=>?_
 have hm:p.1∈F.blocks:=by rw[← he];exact List.mem_map_of_mem hp
 have:=hB.parts _ hm;exact⟨ZO,ZO⟩
theorem RRow.cells{α:Type}{w:World}{base sz:Nat}{e:TypeId}{C:List Value→α→Prop}{v:Value}{xs:List α}(h:RRow w base e sz C v xs){i:Nat}(hi:i<xs.length) :
 ∃g cap cs,v=.slice (some ⟨g,0,none⟩) xs.length cap∧xs.length≤cap∧base≤g∧g<w.heap.size∧w.frozen? ⟨g,0,none⟩=false∧cs.length=sz∧(∀j u,cs[j]?=some u→w.cell? ⟨g,i*sz+j,none⟩=some u)∧C cs xs[i]:=by
 obtain⟨ch,hl,hc,hr⟩:=h;have hcs:∀c∈ch,c.length=sz:=fun cs hm=>by
  obtain⟨i,hi,rfl⟩:=List.getElem_of_mem hm;exact(hc i _ (xs[i]'(ZO)) (by simp[hi]) ZS).1
 have hch:ch[i]?=some (ch[i]'(ZO)):=by simp[hl,hi]
 have hcx:=hc i _ xs[i] hch (by simp[hi]);rcases hr.2 with⟨hv,h0⟩|⟨g,cap,cur,rfl,hb,hh,hnc,hcm,hsz,ht⟩
 · exact ZO
 · refine⟨g,cap,_,rfl,hnc,hb,(Array.getElem?_eq_some_iff.1 hh).1,World.ownsRow.frozenAt (hr) 0,hcx.1,fun j u hu=>?_,hcx.2⟩
   have hj:j<sz:=by rw[← hcx.1];exact(List.getElem?_eq_some_iff.1 hu).1
   rw[cell_of_row w g _ cur e (0,0) hh];have hf:=flat_at hcs hch hj;rw[hu,← ht,List.getElem?_take]at hf;split at hf
   · simpa using hf
   · cases hf
theorem flat_set3{a b c:Value}:∀{ch:List (List Value)} {k:Nat},(∀c∈ch,c.length=3)→k<ch.length→(ch.set k [a,b,c]).flatten=((ch.flatten.set (k*3) a).set (k*3+1) b).set (k*3+2) c
 |[],k,_,hk=>by simp at hk
 |c0::ch,k,hs,hk=>by
  have h0:=hs c0 ZS;obtain⟨x,y,z,rfl⟩:∃x y z,c0=[x,y,z]:=by
   match c0,h0 with
   |[x,y,z],_=>exact⟨x,y,z,rfl⟩
  cases k with
  |zero=>simp
  |succ k=>
   have ih:=flat_set3 (a:=a) (b:=b) (c:=c) (ch:=ch) (k:=k) (fun c h=>hs c (by simp[h])) (by simpa using hk);rw[Lc,List.flatten_cons,ih,List.flatten_cons,show(k+1)*3=k*3+1+1+1 from ZO];simp only[List.cons_append,List.nil_append,Lc,show k*3+1+1+1+1=k*3+1+1+1+1 from rfl,show k*3+1+1+1+2=k*3+2+1+1+1 from rfl]
theorem RRow.put3{α:Type}{w:World}{base g n cap:Nat}{e:TypeId}{C C':List Value→α→Prop}{xs:List α}{a b c:Value}{k:Nat}{x':α}(h:RRow w base e 3 C (.slice (some ⟨g,0,none⟩) n cap) xs)(hk:k<xs.length)
 (hC:∀cs x,C cs x→C' cs x) (hx:C' [a,b,c] x') :
 RRow (((w.setCell ⟨g,k*3,none⟩ a).setCell ⟨g,k*3+1,none⟩ b).setCell ⟨g,k*3+2,none⟩ c) base e 3 C' (.slice (some ⟨g,0,none⟩) n cap) (xs.set k x'):=by
 obtain⟨A,c1,hv⟩:=h.form;simp only[Value.slice.injEq]at hv;obtain⟨-,rfl,-⟩:=hv;obtain⟨ch,hl,hc,hr⟩:=h;have hcs:∀c∈ch,c.length=3:=fun cs hm=>by
  obtain⟨i,hi,rfl⟩:=List.getElem_of_mem hm;exact(hc i _ (xs[i]'(ZO)) (by simp[hi]) ZS).1
 refine⟨ch.set k [a,b,c],by simp[hl],fun i cs x h1 h2=>?_,?_⟩
 · by_cases hi:k=i
   · subst hi
     simp[hl,hk]at h1 h2;subst h1 h2;exact⟨rfl,hx⟩
   · rw[List.getElem?_set_ne hi]at h1 h2
     exact⟨(hc i cs x h1 h2).1,hC _ _ (hc i cs x h1 h2).2⟩
 · rw[flat_set3 hcs ZO,List.length_set]
   exact(((hr.stored (k*3) a).1.stored (k*3+1) b).1.stored (k*3+2) c).1
def CBw(cs:List Value)(x:PBlock×Value×Value):Prop:=
 cs=[.string x.1.name,x.2.1,x.2.2,.int .i64 x.1.term.kind,.int .i64 x.1.term.var,.int .i64 x.1.term.t0,.int .i64 x.1.term.t1]∧x.1.name.size≤maxLen
section
variable {w w':World} {base g:Nat} {v:Value} {ts:List TypeId}
theorem own_ne_nt{e n sz:Nat}{xs:List Value}(ho:w.ownsRow base e sz v n xs)(he:e∉ts){b:Nat}(hb:NT ts w b):v.ownBlock≠some b:=by
 intro e2;obtain⟨cs',t',h1,h2⟩:=hb;rcases ho.2 with⟨rfl,-⟩|⟨g,cap,cur,rfl,-,hh,-⟩
 · cases e2
 · cases e2
   rw[hh]at h1;cases h1;exact he h2
theorem KT.of_kp{e n sz:Nat}{xs:List Value}(h:Kp (fun b=>v.ownBlock≠some b) w w')(ho:w.ownsRow base e sz v n xs)(he:e∉ts):KT ts w w':=
 ⟨h.size,fun b hb=>h.blk b (own_ne_nt ho he hb) hb.lt⟩
theorem CBO.kp{e n sz:Nat}{xs:List Value}{cs:List Value}{x:PBlock×Value×Value}(hx:CBO w base cs x)(h:Kp (fun b=>v.ownBlock≠some b) w w')(ho:w.ownsRow g e sz v n xs)(hi:e≠3)(hn:e≠67)(hd:∀k,x.2.1.ownBlock=some k→v.ownBlock≠some k):CBO w' base cs x:=by
 have hk:KT [3,67] w w':=KT.of_kp h ho (by simp[hi,hn]);exact⟨hx.1,hx.2.1,hx.2.2.1.turn (fun k e=>h.blk k (hd k e) (hx.2.2.1.lt e).2) (fun _ _ h=>h.kt hk ZS),hx.2.2.2.kt hk ZS (fun _ _ h=>h.kt hk ZS)⟩
theorem RRow.mem{α:Type}{sz e:Nat}{C C':List Value→α→Prop}{xs:List α}(h:RRow w base e sz C v xs)(hC:∀cs x,x∈xs→C cs x→C' cs x):RRow w base e sz C' v xs:=by
 obtain⟨ch,hl,hc,hr⟩:=h;exact⟨ch,hl,fun i cs x h1 h2=>⟨(hc i cs x h1 h2).1,hC _ _ (List.mem_of_getElem? h2) (hc i cs x h1 h2).2⟩,hr⟩
end
structure PrI (F:PFunc) (wN wr:World) (g9:Nat) (v0 v1 vbs:Value) (ps:List (PBlock×Value×Value)) (L:List PBlock) (i:Nat) (vb:Value) (qs:List (PBlock×Value×Value)):Prop where
 map:qs.map Prod.fst=L
 far:∀q∈qs,∀j p,i≤j→ps[j]?=some p→Before q p
 box:BoxAt wr g9 #[v0,v1,vb] 26
 hV:RRow wr wN.heap.size 78 2 CVar v0 F.vars
 hI:wr.ownsRow wN.heap.size 3 1 v1 F.params.length (F.params.map (Value.int .i64))
 hq:RRow wr wN.heap.size 62 7 (CBO wr wN.heap.size) vb qs
 hp:RRow wr wN.heap.size 62 7 CBw vbs ps
 el:∀j p,i≤j→ps[j]?=some p→RRow wr wN.heap.size 64 3 (CPh wr) p.2.1 p.1.phis∧RRow wr wN.heap.size 67 4 (CIn wr) p.2.2 p.1.insts
 bel:Below wN.heap.size wN wr
section
variable {F:PFunc} {wN wr w':World} {g9 i gb:Nat} {v0 v1 vbs vb:Value} {ps qs:List (PBlock×Value×Value)} {L:List PBlock}
theorem PrI.below(h:PrI F wN wr g9 v0 v1 vbs ps L i vb qs)(hb:Below wr.heap.size wr w'):PrI F wN w' g9 v0 v1 vbs ps L i vb qs:=by
 have hk:KT [3,64,67,62,78] wr w':=KT.of_below hb
 exact⟨h.map,h.far,h.box.below hb h.box.lt,h.hV.move hb (fun _ _ h=>h),own_below h.hI hb,h.hq.kt hk ZS (fun _ _ h=>CBO.kt hk ZS ZS ZS h),h.hp.move hb (fun _ _ h=>h),
  fun j p hj hp=>⟨(h.el j p hj hp).1.kt hk ZS (fun _ _ h=>h.kt hk ZS),(h.el j p hj hp).2.kt hk ZS (fun _ _ h=>h.kt hk ZS)⟩,h.bel.trans (hb.mono h.bel.size)⟩
theorem PrI.skip(h:PrI F wN wr g9 v0 v1 vbs ps (prBlks F i) i vb qs)(ht:thB F i=false):PrI F wN wr g9 v0 v1 vbs ps (prBlks F (i+1)) (i+1) vb qs:=
 ⟨by rw[prBlks_no ht];exact h.map,fun q hq j p hj hp=>h.far q hq j p ZO hp,h.box,h.hV,h.hI,h.hq,h.hp,fun j p hj hp=>h.el j p ZO hp,h.bel⟩
theorem PrI.phis{C:List Value→PPhi→Prop}{ys:List PPhi}{p:PBlock×Value×Value}(h:PrI F wN wr g9 v0 v1 vbs ps L i vb qs)(hpi:ps[i]?=some p)(hpw:ps.Pairwise Before)(hk:Kp (fun b=>p.2.1.ownBlock≠some b) wr w')
 (hr:RRow wr wN.heap.size 64 3 C p.2.1 ys):PrI F wN w' g9 v0 v1 vbs ps L (i+1) vb qs:=by
 obtain⟨cells,ho⟩:=hr.own;have hto:KT [3,67,62,78] wr w':=KT.of_kp hk ho ZS;have hil:i<ps.length:=(List.getElem?_eq_some_iff.1 hpi).1;have hip:ps[i]=p:=(List.getElem?_eq_some_iff.1 hpi).2;refine⟨h.map,fun q hq j p hj hp=>h.far q hq j p ZO hp,(hk.blk g9 (own_box_ne ho h.box ZD) h.box.lt).trans h.box,h.hV.kt hto ZS (fun _ _ h=>h),own_kt h.hI hto ZS,?_,h.hp.kt hto ZS (fun _ _ h=>h),fun j q hj hq=>⟨?_,(h.el j q ZO hq).2.kt hto ZS (fun _ _ h=>h.kt hto ZS)⟩,?_⟩
 · refine RRow.kt (C:=CBO w' wN.heap.size) (h.hq.mem fun cs x hx hc=>CBO.kp hc hk ho ZD ZD fun k e1 e2=>?_) hto ZS (fun _ _ h=>h)
   have:=(h.far x hx i p (Nr _) hpi).1 k k e1 e2;omega
 · have hjl:j<ps.length:=(List.getElem?_eq_some_iff.1 hq).1
   have hjp:ps[j]=q:=(List.getElem?_eq_some_iff.1 hq).2;have hbe:=List.pairwise_iff_getElem.1 hpw i j hil hjl ZO;rw[hip,hjp]at hbe;exact(h.el j q ZO hq).1.turn (fun k e=>hk.blk k (fun e2=>by have:=hbe.1 k k e2 e;omega) ((h.el j q ZO hq).1.lt e).2) (fun _ _ h=>h.kt hto ZS)
 · exact h.bel.trans (hk.to_below (fun k hlt e=>by have:=(own_lt ho e).1;omega) h.bel.size)
theorem PrI.kpb{cs:Array Value}(h:PrI F wN wr g9 v0 v1 vbs ps L i vb qs)(hk:Kp (fun b=>b≠gb) wr w')(hbx:BoxAt wr gb cs 62)(h1:∀k,vb.ownBlock=some k→k≠gb)(h2:∀k,vbs.ownBlock=some k→k≠gb)(h9:g9≠gb)(hB:wN.heap.size≤gb):PrI F wN w' g9 v0 v1 vbs ps L i vb qs:=by
 have hto:KT [3,67,64,78] wr w':=⟨hk.size,fun b hb=>hk.blk b (by
  rintro rfl;obtain⟨cs',t',e1,e2⟩:=hb;unfold BoxAt at hbx;rw[hbx]at e1;cases e1
  exact absurd e2 ZD) hb.lt⟩
 refine⟨h.map,h.far,(hk.blk g9 h9 h.box.lt).trans h.box,h.hV.kt hto ZS (fun _ _ h=>h),own_kt h.hI hto ZS,?_,h.hp.turn (fun k e=>hk.blk k (h2 k e) (h.hp.lt e).2) (fun _ _ h=>h),fun j q hj hq=>⟨(h.el j q hj hq).1.kt hto ZS (fun _ _ h=>h.kt hto ZS),(h.el j q hj hq).2.kt hto ZS (fun _ _ h=>h.kt hto ZS)⟩,?_⟩
 · exact h.hq.turn (fun k e=>hk.blk k (h1 k e) (h.hq.lt e).2) (fun _ _ h=>⟨h.1,h.2.1,h.2.2.1.kt hto ZS (fun _ _ h=>h.kt hto ZS),h.2.2.2.kt hto ZS (fun _ _ h=>h.kt hto ZS)⟩)
 · exact h.bel.trans (hk.to_below (fun k hlt=>ZO) h.bel.size)
end
def trK(F:PFunc)(t:PTerm)(k:Nat):PTerm:={ t with t0:=if 0<k then(numP F (ith (endsOf t) 0).toNat:Int) else t.t0,t1:=if 1<k then(numP F (ith (endsOf t) 1).toNat:Int) else t.t1 }
theorem trK_other{F:PFunc}{t:PTerm}(h:¬(t.kind=1∧t.t0=t.t1)):trK F t (endsOf t).length=prTerm F t:=by
 unfold trK prTerm endsOf
 by_cases h0:t.kind=0
 · simp[h0,ith]
 · by_cases h1:t.kind=1
   · have h2:t.t0≠t.t1:=fun e=>h ⟨h1,e⟩
     simp[h1,h2,ith]
   · simp[h0,h1]
theorem trK_twin{F:PFunc}{t:PTerm}(h1:t.kind=1)(h2:t.t0=t.t1):({ trK F t (endsOf t).length with t1:=(trK F t (endsOf t).length).t0 }:PTerm)=prTerm F t:=by
 unfold trK prTerm endsOf;simp[h1,h2,ith]
def mixP(F:PFunc)(i k:Nat)(l:List PPhi):List PPhi:=(l.take k).map (prPhi F i)++l.drop k
section
variable {F:PFunc} {i k:Nat} {l:List PPhi}
theorem mixP_len:(mixP F i k l).length=l.length:=by
 unfold mixP;rw[List.length_append,List.length_map,List.length_take,List.length_drop];omega
theorem mixP_at(h:k<l.length):(mixP F i k l)[k]?=some (l.getD k default):=by
 unfold mixP;rw[List.getElem?_append_right ZX];simp[List.length_take,Nat.min_eq_left (Nat.le_of_lt h),List.getD,h]
theorem mixP_set(h:k<l.length):(mixP F i k l).set k (prPhi F i (l.getD k default))=mixP F i (k+1) l:=by
 unfold mixP;have h1:((l.take k).map (prPhi F i)).length=k:=by simp;omega
 rw[List.set_append_right _ _ ZO,h1,Nat.sub_self,List.drop_eq_getElem_cons h,Lz,List.take_add_one,List.getElem?_eq_getElem h,List.map_append];simp[List.getD,h]
theorem mixP_end:mixP F i l.length l=l.map (prPhi F i):=by simp[mixP]
theorem keep_eq(hT:typedP F=true)(hi:i<F.blocks.length){a:Int}(h0:0≤a)(h1:a<F.blocks.length){nums:List Int}(hn:ith nums a.toNat=if thB F a.toNat=true then(numP F a.toNat:Int) else -1):keepF F i a=(((predsOf F).getD i []).contains a&&decide (0≤ith nums a.toNat)):=by
 have hr:(predsOf F).getD i []=ints (predRow F i F.blocks.length):=predsF_row hT hi _ (Nr _);rw[hr,hn,Bool.eq_iff_iff,show keepF F i a=true↔leads (F.blk a.toNat).term (i:Int)=true∧thB F a.toNat=true from(by unfold keepF;rw[Bool.and_eq_true]),Bool.and_eq_true];have hm:(ints (predRow F i F.blocks.length)).contains a=true↔leads (F.blk a.toNat).term (i:Int)=true:=by
  rw[List.contains_iff_mem];unfold ints;rw[List.mem_map];constructor
  · rintro⟨b,hb,rfl⟩
    exact(predRow_mem.1 hb).2
  · intro h
    exact⟨a.toNat,predRow_mem.2 ⟨ZO,h⟩,ZX⟩
 rw[hm];cases thB F a.toNat<;>simp
end
theorem setCells_three{w:World}{b o:Nat}{x y z:Value}:w.setCells b o [x,y,z]=((w.setCell ⟨b,o,none⟩ x).setCell ⟨b,o+1,none⟩ y).setCell ⟨b,o+2,none⟩ z:=rfl
theorem phi_put{w:World}{base b9 g n cap k:Nat}{xs:List PPhi}{x':PPhi}{v9 v10:Value}(h:RRow w base 64 3 (CPh w) (.slice (some ⟨g,0,none⟩) n cap) xs)(hk:k<xs.length)(hT:Two w b9 v10 x'.froms v9 x'.args)(ha:x'.args.length≤1048576)(hf:x'.froms.length≤1048576) :
 RRow (w.setCells g (k*3) [.int .i64 x'.dst,v9,v10]) base 64 3 (CPh (w.setCells g (k*3) [.int .i64 x'.dst,v9,v10])) (.slice (some ⟨g,0,none⟩) n cap) (xs.set k x'):=by
 rw[setCells_three];obtain⟨cells,hO⟩:=h.own;obtain⟨A,c1,hv⟩:=h.form;simp only[Value.slice.injEq]at hv;obtain⟨-,rfl,-⟩:=hv;obtain⟨cur,hbox⟩:=own_box hO;have hKT:=(((KT.refl (ts:=[3]) (w:=w)).setCell hbox ZS (j:=k*3) (.int .i64 x'.dst)).setCell (hbox.set (k*3) _) ZS (j:=k*3+1) v9).setCell ((hbox.set (k*3) _).set (k*3+1) _) ZS (j:=k*3+2) v10;have q1:=own_kt hT.2.1 hKT ZS;have q2:=own_kt hT.1 hKT ZS;exact RRow.put3 h hk (fun _ _ h=>CPh.kt hKT ZS h) ⟨v9,v10,rfl,DInts.of_own q1 ha (own_nt q1 ZS),DInts.of_own q2 hf (own_nt q2 ZS)⟩
theorem kp_put{w a:World}{g o n cap:Nat}{x y z:Value}(h:Kp (fun b=>(Value.slice (some ⟨g,0,none⟩) n cap).ownBlock≠some b) a w):Kp (fun b=>(Value.slice (some ⟨g,0,none⟩) n cap).ownBlock≠some b) a (w.setCells g o [x,y,z]):=by
 rw[setCells_three];have hg:¬(Value.slice (some ⟨g,0,none⟩) n cap).ownBlock≠some g:=fun h=>h rfl
 exact((h.setCell (p:=⟨g,o,none⟩) hg x).setCell (p:=⟨g,o+1,none⟩) hg y).setCell (p:=⟨g,o+2,none⟩) hg z
theorem KT.of_box{w w':World}{gb:Nat}{cs:Array Value}(hk:Kp (fun b=>b≠gb) w w')(hbx:BoxAt w gb cs 62):KT [3,67,64,78] w w':=⟨hk.size,fun b hb=>hk.blk b (by
 rintro rfl;obtain⟨cs',t',e1,e2⟩:=hb;unfold BoxAt at hbx;rw[hbx]at e1;cases e1
 exact absurd e2 ZD) hb.lt⟩
def prCells(F:PFunc)(i:Nat)(vx vy:Value):List Value:=[.string (F.blk i).name,vx,vy,.int .i64 (F.blk i).term.kind,.int .i64 (F.blk i).term.var,.int .i64 (prTerm F (F.blk i).term).t0,.int .i64 (prTerm F (F.blk i).term).t1]
theorem prTerm_kind{F:PFunc}{t:PTerm}:(prTerm F t).kind=t.kind∧(prTerm F t).var=t.var:=by
 unfold prTerm;split
 · exact⟨rfl,rfl⟩
 · split<;>exact⟨rfl,rfl⟩
theorem PrI.snoc{F:PFunc}{wN wz w3:World}{g9 i:Nat}{v0 v1 vbs vq v' vx vy:Value}{ps qs:List (PBlock×Value×Value)}{cellsq:List Value}(h:PrI F wN wz g9 v0 v1 vbs ps (prBlks F i) (i+1) vq qs)(hth:thB F i=true)
 (hpi:ps[i]?=some (F.blk i,vx,vy)) (hpw:ps.Pairwise Before) (hOq:wz.ownsRow wN.heap.size 62 7 vq qs.length cellsq) (hown3:w3.ownsRow wN.heap.size 62 7 v' (qs.length+1) (cellsq++prCells F i vx vy))
 (hgg:(wz.alloc (.cells (prCells F i vx vy).toArray 62)).grownBy w3 vq.ownBlock) (hR:RRow wz wN.heap.size 64 3 (CPh wz) vx ((F.blk i).phis.map (prPhi F i))) (hI:RRow wz wN.heap.size 67 4 (CIn wz) vy (F.blk i).insts)
 (hnz:(F.blk i).name.size≤maxLen) (hvb:∀k,vbs.ownBlock=some k→vq.ownBlock≠some k) (hg9:wN.heap.size≤g9) :
 PrI F wN (w3.setCell ⟨g9,2,none⟩ v') g9 v0 v1 vbs ps (prBlks F (i+1)) (i+1) v' (qs++[(prBlk F i,vx,vy)]):=by
 have hgo3:BoxAt w3 g9 #[v0,v1,vq] 26:=(h.box.alloc _).grown hgg (own_box_ne hOq h.box ZD);have hK:KT [3,64,67,78] wz (w3.setCell ⟨g9,2,none⟩ v'):=((KT.refl.alloc _).grown (hOq.alloc _) ZS hgg).setCell hgo3 ZS _;have hil:i<ps.length:=(List.getElem?_eq_some_iff.1 hpi).1;have hip:ps[i]=(F.blk i,vx,vy):=(List.getElem?_eq_some_iff.1 hpi).2;refine⟨by rw[List.map_append,h.map,prBlks_yes hth];rfl,fun q hq j p hj hp=>?_,by simpa using hgo3.set 2 v',h.hV.kt hK ZS (fun _ _ h=>h),own_kt h.hI hK ZS,?_,?_,fun j q hj hq=>⟨(h.el j q hj hq).1.kt hK ZS (fun _ _ h=>h.kt hK ZS),(h.el j q hj hq).2.kt hK ZS (fun _ _ h=>h.kt hK ZS)⟩,?_⟩
 · rcases List.mem_append.1 hq with hq|hq
   · exact h.far q hq j p hj hp
   · rw[List.mem_singleton]at hq
     subst hq;have hjl:j<ps.length:=(List.getElem?_eq_some_iff.1 hp).1;have hjp:ps[j]=p:=(List.getElem?_eq_some_iff.1 hp).2;have hbe:=List.pairwise_iff_getElem.1 hpw i j hil hjl ZO;rw[hip,hjp]at hbe;exact⟨hbe.1,hbe.2⟩
 · refine RRow.snoc (cs:=prCells F i vx vy) h.hq hOq (ownsRow_setCell_other hown3 (fun e=>own_box_ne hown3 hgo3 ZD e) _) rfl (fun _ _ hc=>CBO.kt hK ZS ZS ZS hc) ?_
   refine⟨?_,hnz,hR.kt hK ZS (fun _ _ h=>h.kt hK ZS),hI.kt hK ZS (fun _ _ h=>h.kt hK ZS)⟩;show prCells F i vx vy=[.string (F.blk i).name,vx,vy,.int .i64 (prTerm F (F.blk i).term).kind,.int .i64 (prTerm F (F.blk i).term).var,.int .i64 (prTerm F (F.blk i).term).t0,.int .i64 (prTerm F (F.blk i).term).t1];rw[prTerm_kind.1,prTerm_kind.2];rfl
 · obtain⟨cellsp,hOp⟩:=h.hp.own
   refine h.hp.turn (fun k e=>?_) (fun _ _ h=>h);have hkl:=(h.hp.lt e).2;exact(heap_set (fun e2=>by subst e2;exact own_box_ne hOp h.box ZD e)).trans ((hgg.block k ZX (fun e2=>hvb k e e2.symm)).trans (heap_alloc_old wz _ hkl))
 · exact((h.bel.alloc h.bel.size _).grown hgg (by have:=h.bel.size;simp;omega) (fun k e=>(own_lt hOq e).1)).setCell hg9 _
theorem BoxAt.put6{w:World}{g:Nat}{t:TypeId}{a0 a1 a2 a3 a4 a5 a6 z:Value}(h:BoxAt w g #[a0,a1,a2,a3,a4,a5,a6] t):BoxAt (w.setCell ⟨g,6,none⟩ z) g #[a0,a1,a2,a3,a4,a5,z] t:=by
 simpa using h.set 6 z
end Go.Proofs.YthhjlbflpjhahaaGreatDoor
