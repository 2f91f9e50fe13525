/- Who makes a variable, and where. No program's code in sight. -/
import Derived.Test.YtlhhfcleioikoaaGreatDoorMkRows
namespace Go.Proofs.YtlhhfcleioikoaaGreatDoor
open Go.RowKit
set_option maxRecDepth 100000
theorem evs_mem{F:PFunc}{n i:Nat}(h:i<n){e:Ev}(he:e∈evBlk F i):e∈evs F n:=by
 induction n with
 |zero=>omega
 |succ n ih=>
  rw[evs,List.mem_append]
  by_cases hi:i<n
  · exact .inl (ih hi)
  · obtain rfl:i=n:=by omega
    exact .inr he
section
variable {F:PFunc}
def MkAt(F:PFunc)(v:Int)(i:Nat)(a:Int):Prop:=i<F.blocks.length∧((a=-1∧∃p∈(F.blk i).phis,p.dst=v)∨∃k:Nat,k<(F.blk i).insts.length∧a=k∧((F.blk i).inst k).dst=v)
theorem mk_ev{v:Int}{i:Nat}{a:Int}:MkAt F v i a↔(⟨v,i,a⟩:Ev)∈evF F:=by
 constructor
 · rintro⟨hi,h⟩
   refine evs_mem hi ?_;unfold evBlk;rw[List.mem_append];rcases h with⟨rfl,p,hp,rfl⟩|⟨k,hk,rfl,rfl⟩
   · obtain⟨k,hk,rfl⟩:=List.getElem_of_mem hp
     exact .inl (List.mem_map.2 ⟨k,List.mem_range.2 hk,by simp[PBlock.phi,List.getD,hk]⟩)
   · exact .inr (List.mem_map.2 ⟨k,List.mem_range.2 hk,rfl⟩)
 · intro h
   have key:∀n,n≤F.blocks.length→(⟨v,i,a⟩:Ev)∈evs F n→i<n∧(⟨v,i,a⟩:Ev)∈evBlk F i:=by
    intro n
    induction n with
    |zero=>intro _ h;cases h
    |succ n ih=>
     intro hn h;rw[evs,List.mem_append]at h;rcases h with h|h
     · have:=ih ZO h
       exact⟨ZO,this.2⟩
     · have hb:i=n:=by
        unfold evBlk evPhi evIns at h;rw[List.mem_append,List.mem_map,List.mem_map]at h;rcases h with⟨k,-,h⟩|⟨k,-,h⟩
        · cases h;rfl
        · cases h;rfl
       rw[hb];rw[hb]at h;exact⟨ZO,h⟩
   obtain⟨h1,h2⟩:=key F.blocks.length (Nat.le_refl _) h;refine⟨h1,?_⟩;unfold evBlk evPhi evIns at h2;rw[List.mem_append,List.mem_map,List.mem_map]at h2;rcases h2 with⟨k,hk,h2⟩|⟨k,hk,h2⟩
   · cases h2
     exact .inl ⟨rfl,_,mem_of_Phi (List.mem_range.1 hk),rfl⟩
   · cases h2
     exact .inr ⟨k,List.mem_range.1 hk,rfl,rfl⟩
theorem mk_mem{v:Int}{i:Nat}{a:Int}(h:MkAt F v i a):((i:Int),a)∈mkOf (evF F) v:=List.mem_map.2 ⟨_,List.mem_filter.2 ⟨mk_ev.1 h,ZS⟩,rfl⟩
theorem mk_maker{v:Int}{i:Nat}{a:Int}(h1:(mkOf (evF F) v).length≤1)(h:MkAt F v i a):makerF F v=((i:Int),a):=by
 have hm:=mk_mem h;unfold makerF
 match mkOf (evF F) v,h1,hm with
 |[p],_,hm=>
  rw[List.mem_singleton]at hm;rw[hm,makerOf_cons]
 |p::q::r,h1,_=>simp at h1
theorem mk_none{v:Int}(h:∀i a,¬MkAt F v i a):makerF F v=(-1,0):=by
 unfold makerF;have:mkOf (evF F) v=[]:=by
  unfold mkOf;rw[List.map_eq_nil_iff,List.filter_eq_nil_iff];intro e he hd;have hd:e.dst=v:=by simpa using hd
  exact h e.blk e.pos (mk_ev.2 (by rw[← hd];exact he))
 rw[this,makerOf_nil]
theorem once_le(h:onceB F=true){v:Int}(h0:0≤v)(h1:v<F.vars.length):(mkOf (evF F) v).length≤1:=by
 have:=List.all_eq_true.1 h v.toNat (List.mem_range.2 ZO);unfold onceAt at this;rw[Int.toNat_of_nonneg h0]at this;simp only[Bool.not_eq_true',Bool.or_eq_false_iff,decide_eq_false_iff_not]at this;omega
end
end Go.Proofs.YtlhhfcleioikoaaGreatDoor
