/- The plain law of Prune: what is left of a program without what isn't reached. No program's code in sight. -/
import Derived.Test.YtlhhfcleioikoaaGreatDoorJoinP
import Derived.Test.YtlhhfcleioikoaaGreatDoorWays
namespace Go.Proofs.YtlhhfcleioikoaaGreatDoor
open Go.RowKit
set_option maxRecDepth 100000
def thB(F:PFunc)(i:Nat):Bool:=(marksL F.blocks.length (postO F).reverse).getD i false
def numP(F:PFunc):Nat→Nat
 |0=>0
 |i+1=>if thB F i=true then numP F i+1 else numP F i
def keepF(F:PFunc)(i:Nat)(a:Int):Bool:=leads (F.blk a.toNat).term (i:Int)&&thB F a.toNat
def prA(F:PFunc)(i:Nat)(x:PPhi):Nat→List Int
 |0=>[]
 |k+1=>if keepF F i (ith x.froms k)=true then prA F i x k++[ith x.args k] else prA F i x k
def prN(F:PFunc)(i:Nat)(x:PPhi):Nat→List Int
 |0=>[]
 |k+1=>if keepF F i (ith x.froms k)=true then prN F i x k++[(numP F (ith x.froms k).toNat:Int)] else prN F i x k
def prPhi(F:PFunc)(i:Nat)(x:PPhi):PPhi:={ dst:=x.dst,args:=prA F i x x.froms.length,froms:=prN F i x x.froms.length }
def prTerm(F:PFunc)(t:PTerm):PTerm:=
 if t.kind=0 then { t with t0:=(numP F t.t0.toNat:Int) } else if t.kind=1 then { t with t0:=(numP F t.t0.toNat:Int),t1:=(numP F t.t1.toNat:Int) } else t
def prBlk(F:PFunc)(i:Nat):PBlock:={ name:=(F.blk i).name,phis:=(F.blk i).phis.map (prPhi F i),insts:=(F.blk i).insts,term:=prTerm F (F.blk i).term }
def prBlks(F:PFunc):Nat→List PBlock
 |0=>[]
 |i+1=>if thB F i=true then prBlks F i++[prBlk F i] else prBlks F i
def prF(F:PFunc):PFunc:={ vars:=F.vars,params:=F.params,blocks:=prBlks F F.blocks.length }
section
variable {F:PFunc} {i k:Nat} {x:PPhi}
theorem numP_yes(h:thB F i=true):numP F (i+1)=numP F i+1:=by rw[numP,if_pos h]
theorem numP_no(h:thB F i=false):numP F (i+1)=numP F i:=by rw[numP,if_neg (by simp[h])]
theorem numP_le:∀i,numP F i≤i
 |0=>Nat.le_refl _
 |i+1=>by
  have:=numP_le i;rw[numP];split<;>omega
theorem numP_mono{i:Nat}:∀{j:Nat},i≤j→numP F i≤numP F j
 |0,h=>by rw[show i=0 from ZO];exact Nat.le_refl _
 |j+1,h=>by
  by_cases e:i=j+1
  · rw[e];exact Nat.le_refl _
  · have:=numP_mono (i:=i) (j:=j) ZO
    rw[numP];split<;>omega
theorem numP_lt{j:Nat}(h:i<j)(ht:thB F i=true):numP F i<numP F j:=by
 have:=numP_mono (F:=F) (show i+1≤j from ZO);rw[numP_yes ht]at this;omega
theorem prA_yes(h:keepF F i (ith x.froms k)=true):prA F i x (k+1)=prA F i x k++[ith x.args k]:=by rw[prA,if_pos h]
theorem prA_no(h:keepF F i (ith x.froms k)=false):prA F i x (k+1)=prA F i x k:=by rw[prA,if_neg (by simp[h])]
theorem prN_yes(h:keepF F i (ith x.froms k)=true):prN F i x (k+1)=prN F i x k++[(numP F (ith x.froms k).toNat:Int)]:=by rw[prN,if_pos h]
theorem prN_no(h:keepF F i (ith x.froms k)=false):prN F i x (k+1)=prN F i x k:=by rw[prN,if_neg (by simp[h])]
theorem prAN_len:∀k,(prA F i x k).length=(prN F i x k).length
 |0=>rfl
 |k+1=>by
  have:=prAN_len k;rw[prA,prN];split
  · simp[this]
  · exact this
theorem prA_le:∀k,(prA F i x k).length≤k
 |0=>Nat.le_refl _
 |k+1=>by
  have:=prA_le k;rw[prA];split
  · exact ZX
  · exact ZO
theorem prN_le(k:Nat):(prN F i x k).length≤k:=by rw[← prAN_len];exact prA_le k
theorem prA_mem{v:Int}:∀{k:Nat},v∈prA F i x k→∃j,j<k∧v=ith x.args j
 |0,h=>by simp[prA]at h
 |k+1,h=>by
  rw[prA]at h;split at h
  · rcases List.mem_append.1 h with h|h
    · obtain⟨j,h1,h2⟩:=prA_mem h
      exact⟨j,ZO,h2⟩
    · exact⟨k,ZO,by simpa using h⟩
  · obtain⟨j,h1,h2⟩:=prA_mem h
    exact⟨j,ZO,h2⟩
theorem prBlks_yes(h:thB F i=true):prBlks F (i+1)=prBlks F i++[prBlk F i]:=by rw[prBlks,if_pos h]
theorem prBlks_no(h:thB F i=false):prBlks F (i+1)=prBlks F i:=by rw[prBlks,if_neg (by simp[h])]
theorem prBlks_len:∀i,(prBlks F i).length=numP F i
 |0=>rfl
 |i+1=>by
  have:=prBlks_len i;rw[prBlks,numP];split
  · simp[this]
  · exact this
theorem prBlks_mem{b:PBlock}:∀{i:Nat},b∈prBlks F i→∃j,j<i∧thB F j=true∧b=prBlk F j
 |0,h=>by simp[prBlks]at h
 |i+1,h=>by
  rw[prBlks]at h;split at h
  · rename_i ht
    rcases List.mem_append.1 h with h|h
    · obtain⟨j,h1,h2⟩:=prBlks_mem h
      exact⟨j,ZO,h2⟩
    · exact⟨i,ZO,ht,by simpa using h⟩
  · obtain⟨j,h1,h2⟩:=prBlks_mem h
    exact⟨j,ZO,h2⟩
theorem thB_lt(h:thB F i=true):i<F.blocks.length:=by
 have:=getD_true_lt h
 rwa [marksL_len]at this
theorem thB_iff(hi:i<F.blocks.length):thB F i=true↔i∈postO F:=by rw[thB,marksL_at hi,List.mem_reverse]
theorem thB_zero(h:typedP F=true):thB F 0=true:=by
 have n1:=(shaped_count (typed_shaped h)).1;exact(thB_iff ZO).2 (List.mem_of_getLast? (post_fin h).last)
theorem thB_clo(h:typedP F=true)(ht:thB F i=true){c:Nat}(hl:leads (F.blk i).term (c:Int)=true):thB F c=true:=by
 have hi:=thB_lt ht;have hc:=(EN_leads h hi).2 hl;exact(thB_iff (EN_lt h hi c hc)).2 ((post_fin h).clo i ((thB_iff hi).1 ht) c hc)
theorem thB_ends(h:typedP F=true)(ht:thB F i=true){c:Int}(hc:c∈endsOf (F.blk i).term):0≤c∧c<F.blocks.length∧thB F c.toNat=true:=by
 have hi:=thB_lt ht;have hb:=inB_true (ends_in h hi c hc);have hm:c.toNat∈EN F i:=List.mem_map.2 ⟨c,hc,rfl⟩;exact⟨hb.1,hb.2,thB_clo h ht ((EN_leads h hi).1 hm)⟩
theorem numP_pos(h:typedP F=true){c:Int}(h0:0≤c)(h1:(c !=0)=true):((numP F c.toNat:Int) !=0)=true:=by
 rw[bne_iff_ne]at *;have h2:numP F 1=1:=by rw[numP_yes (thB_zero h)];rfl
 have:=numP_mono (F:=F) (show 1≤c.toNat from ZO);omega
theorem ty_pr(v:Int):tyOf (prF F) v=tyOf F v:=rfl
theorem takes_pr:∀(l m:List Int),takesT (prF F) l m=takesT F l m
 |[],m=>by cases m<;>rfl
 |a::l,[]=>rfl
 |a::l,t::m=>by rw[takesT,takesT,takes_pr l m,ty_pr]
theorem inst_pr(y:PInst):instT (prF F) y=instT F y:=by
 unfold instT;rw[takes_pr];rfl
theorem typed_blk(h:typedP F=true)(hi:i<F.blocks.length):blkT F (F.blk i)=true:=by
 unfold typedP at h;rw[Bool.and_eq_true,List.all_eq_true]at h;exact h.2 _ (mem_of_blk hi)
theorem term_pr(h:typedP F=true)(hi:i<F.blocks.length):termT (prF F) (prTerm F (F.blk i).term)=true:=by
 have hb:=typed_blk h hi;have hs:=(shaped_blk (typed_shaped h) hi).2.2;unfold blkT at hb;rw[Bool.and_eq_true]at hb;have ht:=hb.2;clear hb;generalize (F.blk i).term=t at *;unfold termT at ht ⊢;unfold termB at hs;unfold prTerm
 by_cases h0:t.kind=0
 · rw[if_pos h0]at ht hs
   rw[if_pos h0,if_pos h0];simp only[Bool.and_eq_true]at hs;exact numP_pos h (inB_true hs.1.1).1 ht
 · rw[if_neg h0]at ht hs
   by_cases h1:t.kind=1
   · rw[if_pos h1]at ht hs
     rw[if_neg h0,if_pos h1,if_neg h0,if_pos h1];simp only[Bool.and_eq_true]at hs ht ⊢;exact⟨⟨ht.1.1,numP_pos h (inB_true hs.1.2).1 ht.1.2⟩,numP_pos h (inB_true hs.2).1 ht.2⟩
   · rw[if_neg h1]at ht
     rw[if_neg h0,if_neg h1,if_neg h0,if_neg h1];exact ht
theorem phi_pr(h:phiT F x=true)(hl:x.args.length=x.froms.length):phiT (prF F) (prPhi F i x)=true:=by
 unfold phiT at *;rw[List.all_eq_true]at *;intro v hv;obtain⟨j,hj,rfl⟩:=prA_mem hv;exact h _ (List.mem_of_getElem? (ith_get ZO))
theorem blk_pr(h:typedP F=true)(hi:i<F.blocks.length):blkT (prF F) (prBlk F i)=true:=by
 have hb:=typed_blk h hi;have hs:=(shaped_blk (typed_shaped h) hi).1;have hm:=term_pr h hi;unfold blkT at hb ⊢;rw[Bool.and_eq_true,Bool.and_eq_true,List.all_eq_true,List.all_eq_true]at hb;rw[Bool.and_eq_true,Bool.and_eq_true,List.all_eq_true,List.all_eq_true];refine⟨⟨fun y hy=>?_,fun y hy=>?_⟩,hm⟩
 · obtain⟨x,hx,rfl⟩:=List.mem_map.1 hy
   refine phi_pr (hb.1.1 x hx) ?_;have:=hs x hx;unfold phiB at this;simp only[Bool.and_eq_true,decide_eq_true_eq]at this;exact this.1.1.1.2
 · rw[inst_pr]
   exact hb.1.2 y hy
theorem typed_pr(h:typedP F=true):typedP (prF F)=shapedP (prF F):=by
 have:(prF F).blocks.all (blkT (prF F))=true:=by
  rw[List.all_eq_true];intro b hb;obtain⟨j,hj,-,rfl⟩:=prBlks_mem hb;exact blk_pr h hj
 rw[typedP,this,Bool.and_true]
theorem bnd_pr(h:Bnd F):Bnd (prF F):=by
 have hm:∀b∈(prF F).blocks,∃j,j<F.blocks.length∧b=prBlk F j:=fun b hb=>by
  obtain⟨j,hj,-,e⟩:=prBlks_mem hb;exact⟨j,hj,e⟩
 refine⟨h.vars,h.params,?_,?_,?_,?_⟩
 · have h1:=numP_le (F:=F) F.blocks.length
   have h2:=h.blocks;rw[prF,prBlks_len];omega
 · intro b hb
   obtain⟨j,hj,rfl⟩:=hm b hb;simpa[prBlk]using h.parts _ (mem_of_blk hj)
 · intro b hb p hp
   obtain⟨j,hj,rfl⟩:=hm b hb;obtain⟨x,hx,rfl⟩:=List.mem_map.1 hp;have h1:=(h.pairs _ (mem_of_blk hj) x hx).2;have h2:=prA_le (F:=F) (i:=j) (x:=x) x.froms.length;have h3:=prN_le (F:=F) (i:=j) (x:=x) x.froms.length;exact⟨Nat.le_trans h2 h1,Nat.le_trans h3 h1⟩
 · intro b hb y hy
   obtain⟨j,hj,rfl⟩:=hm b hb;exact h.args _ (mem_of_blk hj) y hy
theorem Bnd.small{G:PFunc}(h:Bnd G):Small G:=by
 refine⟨by have:=h.vars;omega,by have:=h.blocks;omega,fun i hi=>?_⟩;have:=h.parts _ (mem_of_blk hi);exact⟨ZO,ZO⟩
end
end Go.Proofs.YtlhhfcleioikoaaGreatDoor
