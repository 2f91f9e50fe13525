/- slices.Clone of a row of variables. -/
import Derived.Test.YtlhhfcleioikoaaGreatDoorMkRows
namespace Go.Proofs.YtlhhfcleioikoaaGreatDoor
open Go.RowKit
set_option maxRecDepth 100000
theorem Tryz.info52:(Tryz.prog.info? 52).map (fun i=>(i.zero,i.size,i.bytes))=some (some (.agg #[.string ByteArray.empty,.int .i64 0]),2,24):=by kernel_rfl
def cellsV(x:PVar):List Value:=[.string x.name,.int .i64 x.ty]
theorem cellsV_flat{xs:List PVar}:(xs.map cellsV).flatten.length=xs.length*2:=by
 rw[List.length_flatten,List.map_map]
 induction xs with
 |nil=>rfl
 |cons x xs ih=>simp only[List.map_cons,List.sum_cons,List.length_cons,ih,Function.comp];simp[cellsV];omega
set_option maxHeartbeats 2000000 in
theorem cloneV_calls{B:Nat}{w:World}{A:Option Addr}{c:Nat}{xs:List PVar}(hr:Rd B A xs 2 (VarC w))(hl:xs.length≤1048576) :
 Calls Tryz.prog 71 #[.slice A xs.length c] w fun e w'=>∃v',e=.returned v'∧RRow w' w.heap.size 52 2 CVar v' xs∧Below w.heap.size w w':=by
 have q22:∀(w:World) (a:Option Addr) (n c n' c':Nat),(binOp .eql 22 (.slice a n c) (.slice none n' c')).run Tryz.prog w=.ok (.bool a.isNone) w:=fun w a n c n' c'=>Lib.run_eql_slice_nil w _ _ a n c n' c' Tryz.underlying22
 cases A with
 |none=>
  have hx:xs=[]:=by
   cases xs with
   |nil=>rfl
   |cons x xs=>
    obtain⟨b,off,h,-⟩:=hr 0 x rfl;cases h
  subst hx;clear hr;go_enter Tryz.func71,Tryz.ntmps71;go_wp2;go_ret;exact⟨_,rfl,RRow.nil,Below.refl _ _⟩
 |some a=>
  obtain⟨i0,hi,hz0,hz1,hz2⟩:=info_parts Tryz.info52;have hc:∀j u,(xs.map cellsV).flatten[j]?=some u→w.cell? (a.add j)=some u:=by
   intro j u hj;have hjl:=(List.getElem?_eq_some_iff.1 hj).1;rw[cellsV_flat]at hjl;obtain⟨i,k,hk,rfl⟩:∃i k,k<2∧j=i*2+k:=⟨j / 2,j%2,Nat.mod_lt _ ZD,ZO⟩;have hix:xs[i]?=some (xs[i]'(ZO)):=by simp
   obtain⟨b,off,ha,hb,hn,h0,h1⟩:=hr i _ hix;cases ha;rw[flat_at (sz:=2) (i:=i) (j:=k) (cs:=cellsV (xs[i]'(ZO))) (fun c hc=>by simp at hc;obtain⟨x,-,rfl⟩:=hc;rfl) (by rw[List.getElem?_map,hix];rfl) hk]at hj;rw[Addr.add_lit];rcases(show k=0∨k=1 from ZO)with rfl|rfl
   · rw[Nat.add_zero,h0];simpa[cellsV]using hj
   · rw[show off+(i*2+1)=off+i*2+1 from ZO,h1];simpa[cellsV]using hj
  have h1:∀u∈(xs.map cellsV).flatten,u.oneCell'=true:=by
   intro u hu;obtain⟨c,hc,hu⟩:=List.mem_flatten.1 hu;obtain⟨x,-,rfl⟩:=List.mem_map.1 hc;simp[cellsV]at hu;rcases hu with rfl|rfl<;>rfl
  have hlen:=cellsV_flat (xs:=xs);have hbv:∀(i:Nat) cs x,(xs.map cellsV)[i]?=some cs→xs[i]?=some x→cs.length=2∧CVar cs x:=by
   intro i cs x h1 h2;obtain⟨b,off,ha,hb,hn,-⟩:=hr i x h2;simp[h2]at h1;subst h1;exact⟨rfl,hn,rfl⟩
  replace hbv:=Lib.hid hbv;have HC:=Lib.hid hc;clear hr hc;have HLC:=Lib.hid (show(xs.map cellsV).length=xs.length from ZS);generalize (xs.map cellsV)=ch at *;generalize hcells:ch.flatten=cells at *;have HCL:=Lib.hid hcells;clear hcells;go_enter Tryz.func71,Tryz.ntmps71;go_wp2_with(at_builtin;refine wpList_append_own _ rfl _ _ 22 rfl w.heap.size 52 i0 _ 2 24 Tryz.underlying22 hi hz0 hz1 hz2 rfl ZD _ _ _ rfl (World.ownsRow_made w #[] 0 (Nat.le_refl _) (Nat.zero_le _) ZS) a xs.length c cells rfl hlen ?qc2 h1 (by unfold maxLen;omega) ZO ZS ?_)
  case qc2=>
   intro j u hj;exact Lib.cell?_alloc_some _ (HC.out j u hj)
  intro v' w1 hown hgrow hnil;go_wp2;go_ret;refine⟨v',rfl,⟨ch,HLC.out,hbv.out,?_⟩,?_⟩
  · rw[HCL.out];simpa using hown
  · exact((Below.refl _ w).alloc (Nat.le_refl _) _).grown hgrow ZS (by intro k hk;simp[Value.ownBlock]at hk;omega)
end Go.Proofs.YtlhhfcleioikoaaGreatDoor
