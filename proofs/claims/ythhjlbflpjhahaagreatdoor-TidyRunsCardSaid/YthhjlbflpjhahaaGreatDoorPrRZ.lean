/- The plain law of the run of a program without what isn't reached: it runs as the program does. -/
import Derived.Test.YthhjlbflpjhahaaGreatDoorPrJZ
import Derived.Test.YthhjlbflpjhahaaGreatDoorRunSZ
namespace Go.Proofs.YthhjlbflpjhahaaGreatDoor
open Go.RowKit
set_option maxRecDepth 100000
section
variable {F:PFunc} {i j k:Nat} {x:PPhi} {s:RSt}
def RSt.inK(s:RSt)(b:Nat):RSt:={ s with block:=b }
theorem atOf_snoc{f a b:Int}:∀{fs l:List Int},fs.length=l.length→atOf (fs++[f]) (l++[a]) b=if b∈fs then atOf fs l b else if f=b then a else -1
 |[],[],_=>by simp[atOf]
 |g::fs,c::l,h=>by
  have ih:=atOf_snoc (f:=f) (a:=a) (b:=b) (fs:=fs) (l:=l) (by simpa using h);simp only[List.cons_append,atOf,ih]
  by_cases e:g=b
  · subst e
    simp
  · rw[if_neg e,if_neg e]
    have:(b∈g::fs)=(b∈fs):=by
     rw[List.mem_cons];exact propext ⟨fun h=>h.resolve_left (fun e2=>e e2.symm),.inr⟩
    simp only[this]
theorem pr_at{p:Nat}(hp:thB F p=true)(hl:leads (F.blk p).term (i:Int)=true)(h0:∀k,k<x.froms.length→0≤ith x.froms k)(hal:x.args.length=x.froms.length) :
 ∀k,k≤x.froms.length→atOf (prN F i x k) (prA F i x k) (numP F p)=atOf (x.froms.take k) (x.args.take k) p
 |0,_=>by simp[prN,prA,atOf]
 |k+1,hk=>by
  have ih:=pr_at hp hl h0 hal k ZO;have hm:=prN_mem hp hl h0 k ZO;have hget:=ith_get (show k<x.froms.length from ZO);have hgeta:=ith_get (show k<x.args.length from ZO);have hz:=h0 k ZO;have hno:(p:Int)∉x.froms.take k→atOf (x.froms.take k) (x.args.take k) p=-1:=by
   intro h;have:∀(fs l:List Int),(p:Int)∉fs→atOf fs l p=-1:=by
    intro fs
    induction fs with
    |nil=>intro l _;unfold atOf;rfl
    |cons f fs ih=>
     intro l hn;cases l with
     |nil=>unfold atOf;rfl
     |cons a l=>
      rw[List.mem_cons,not_or]at hn;unfold atOf;rw[if_neg (fun e=>hn.1 e.symm)];exact ih l hn.2
   exact this _ _ h
  rw[List.take_add_one,hget,List.take_add_one,hgeta];simp only[Option.toList];rw[atOf_snoc (by simp[hal]),prN,prA];split
  · rename_i hkp
    rw[atOf_snoc (prAN_len k).symm,ih];unfold keepF at hkp;rw[Bool.and_eq_true]at hkp;have he:((numP F (ith x.froms k).toNat:Int)=(numP F p:Int))↔(ith x.froms k=(p:Int)):=by
     constructor
     · intro h
       have:=numP_inj hkp.2 hp ZO;omega
     · intro h
       rw[h];simp
    simp only[hm,he]
  · rename_i hkp
    rw[ih];have hne:¬ith x.froms k=(p:Int):=by
     intro h;refine hkp ?_;unfold keepF;rw[h,Int.toNat_natCast,hl,hp];rfl
    rw[if_neg hne];split
    · rfl
    · rename_i hn
      exact hno hn
theorem pr_got{p:Nat}(hT:typedP F=true)(hi:i<F.blocks.length)(hp:thB F p=true)(hl:leads (F.blk p).term (i:Int)=true):gotR (prBlk F i).phis (numP F p)=gotR (F.blk i).phis p:=by
 unfold gotR prBlk;rw[List.map_map];refine List.map_congr_left fun x hx=>?_
 have hs:=(shaped_blk (typed_shaped hT) hi).1 x hx;unfold phiB at hs;simp only[Bool.and_eq_true,decide_eq_true_eq]at hs;obtain⟨k,hk,rfl⟩:=List.getElem_of_mem hx;have e:(F.blk i).phi k=(F.blk i).phis[k]:=by rw[PBlock.phi,getD_get hk]
 have:=pr_at (x:=(F.blk i).phis[k]) hp hl (fun j hj=>by
  have:=typed_from hT hi hk (j:=j) (by rw[e];exact hj);rw[e]at this
  exact this.1) hs.1.1.1.2 _ (Nr _)
 rw[List.take_length,List.take_of_length_le (by rw[hs.1.1.1.2];exact Nr _)]at this;exact this
theorem moveR_pr{o:RSt}{b c:Nat}:∀(ps:List PPhi) (gs:List Int) (s:RSt),moveR (o.inK b) (ps.map (prPhi F i)) gs (s.inK c)=(moveR o ps gs s).inK c
 |[],_,_=>by simp[moveR]
 |_::_,[],_=>by simp[moveR]
 |p::ps,g::gs,s=>by
  rw[List.map_cons,moveR,moveR];exact moveR_pr (c:=c) ps gs (((s.setI p.dst (o.int g)).setB p.dst (o.boo g)).setA p.dst (o.arr g))
theorem enter_pr{p:Nat}(hT:typedP F=true)(hi:thB F i=true)(hp:thB F p=true)(hl:leads (F.blk p).term (i:Int)=true)(hb:s.block=p):enterR (prF F) (numP F i) (s.inK (numP F p))=(enterR F i s).inK (numP F i):=by
 have hg:=pr_got hT (thB_lt hi) hp hl;unfold enterR;rw[pr_blk hi];show(if(gotR (prBlk F i).phis (numP F p)).any (fun g=>decide (g<0))=true then _ else _)=_;have h2:gotR (prBlk F i).phis ((s.inK (numP F p)).block:Int)=gotR (F.blk i).phis s.block:=by rw[hb];exact hg
 rw[hg,h2,hb];split
 · rfl
 · show(moveR (s.inK (numP F p)) ((F.blk i).phis.map (prPhi F i)) _ (s.inK (numP F p))).goTo _=_
   rw[moveR_pr];rfl
theorem ite_in'{p:Prop}[Decidable p]{x y y1:RSt}{b:Nat}(h:y1=y.inK b):(if p then x.inK b else y1)=(if p then x else y).inK b:=by
 subst h;split<;>rfl
theorem ite_in{p:Prop}[Decidable p]{x y:RSt}{b:Nat}:(if p then x.inK b else y.inK b)=(if p then x else y).inK b:=ite_in' rfl
theorem inst_in(n:Nat)(x:PInst)(b:Nat):instN n (s.inK b) x=(instN n s x).inK b:=by
 by_cases h5:n=5
 · subst h5;exact ite_in (x:=s.endW 2) (y:=s.setI x.dst (quoP (s.int (ith x.args 0)) (s.int (ith x.args 1))))
 by_cases h6:n=6
 · subst h6;exact ite_in (x:=s.endW 2) (y:=s.setI x.dst (remP (s.int (ith x.args 0)) (s.int (ith x.args 1))))
 by_cases h12:n=12
 · subst h12;exact ite_in (x:=s.endW 2) (y:=s.setI x.dst (s.row (s.arr (ith x.args 0))).length)
 by_cases h13:n=13
 · subst h13;exact ite_in (x:=s.setI x.dst (ith (s.row (s.arr (ith x.args 0))) (s.int (ith x.args 1)).toNat)) (y:=s.endW 2)
 by_cases h14:n=14
 · subst h14;exact ite_in (x:=s.setR (s.arr (ith x.args 0)) (s.int (ith x.args 1)) (s.int (ith x.args 2))) (y:=s.endW 2)
 by_cases h15:n=15
 · subst h15
   exact ite_in' (x:=s.endW 2) (y:=if 32≤s.rows.length then s.endW 3 else(s.addR (List.replicate (s.int (ith x.args 0)).toNat 0)).setA x.dst s.rows.length)
    (ite_in (x:=s.endW 3) (y:=(s.addR (List.replicate (s.int (ith x.args 0)).toNat 0)).setA x.dst s.rows.length))
 by_cases h17:n=17
 · subst h17;exact ite_in (x:=s.endW 3) (y:=s.addT (s.int (ith x.args 0)))
 by_cases h27:18≤n∧n≠25∧n≠26
 · have hn:∀s:RSt,instN n s x=chkR (n-17) (passN n s x) s:=fun s=>by
    unfold instN;split
    all_goals first|rfl|omega
   rw[hn,hn];exact ite_in (x:=s.tick (n-17)) (y:=(s.tick (n-17)).trapW (n-17:Nat))
 · match n,h5,h6,h12,h13,h14,h15,h17,h27 with
   |0,_,_,_,_,_,_,_,_=>rfl
   |1,_,_,_,_,_,_,_,_=>rfl
   |2,_,_,_,_,_,_,_,_=>rfl
   |3,_,_,_,_,_,_,_,_=>rfl
   |4,_,_,_,_,_,_,_,_=>rfl
   |7,_,_,_,_,_,_,_,_=>rfl
   |8,_,_,_,_,_,_,_,_=>rfl
   |9,_,_,_,_,_,_,_,_=>rfl
   |10,_,_,_,_,_,_,_,_=>rfl
   |11,_,_,_,_,_,_,_,_=>rfl
   |16,_,_,_,_,_,_,_,_=>rfl
   |25,_,_,_,_,_,_,_,_=>rfl
   |26,_,_,_,_,_,_,_,_=>rfl
   |5,h,_,_,_,_,_,_,_=>exact absurd rfl h
   |6,_,h,_,_,_,_,_,_=>exact absurd rfl h
   |12,_,_,h,_,_,_,_,_=>exact absurd rfl h
   |13,_,_,_,h,_,_,_,_=>exact absurd rfl h
   |14,_,_,_,_,h,_,_,_=>exact absurd rfl h
   |15,_,_,_,_,_,h,_,_=>exact absurd rfl h
   |17,_,_,_,_,_,_,h,_=>exact absurd rfl h
   |k+18,_,_,_,_,_,_,_,h=>
    by_cases h1:k+18=25
    · obtain rfl:k=7:=by omega
      rfl
    · by_cases h2:k+18=26
      · obtain rfl:k=8:=by omega
        rfl
      · exact absurd ⟨ZO,h1,h2⟩ h
theorem step_pr(hT:typedP F=true)(hI:RInv F s)(ht:thB F s.block=true):stepR (prF F) (s.inK (numP F s.block))=(stepR F s).inK (numP F (stepR F s).block)∧thB F (stepR F s).block=true:=by
 have hblk:=pr_blk ht;have hbl:(s.inK (numP F s.block)).block=numP F s.block:=rfl
 by_cases h1:s.pc<(F.blk s.block).insts.length
 · have hb:=(instN_pos ((F.blk s.block).inst s.pc).op.toNat { s with steps:=wrap64 (s.steps+1),pc:=s.pc+1 } ((F.blk s.block).inst s.pc)).1
   have hs:(stepR F s).block=s.block:=by rw[stepR_inst h1];exact hb
   refine⟨?_,by rw[hs];exact ht⟩;rw[hs];have h2:(s.inK (numP F s.block)).pc<((prF F).blk (s.inK (numP F s.block)).block).insts.length:=by rw[hbl,hblk];exact h1
   rw[stepR_inst h2,stepR_inst h1,hbl,hblk];exact inst_in (s:={ s with steps:=wrap64 (s.steps+1),pc:=s.pc+1 }) _ _ _
 have hbt:((prF F).blk (numP F s.block)).term=prTerm F (F.blk s.block).term:=by rw[hblk];rfl
 have hbi:((prF F).blk (numP F s.block)).insts=(F.blk s.block).insts:=by rw[hblk];rfl
 have hk:(prTerm F (F.blk s.block).term).kind=(F.blk s.block).term.kind∧(prTerm F (F.blk s.block).term).var=(F.blk s.block).term.var:=by
  unfold prTerm;split
  · exact⟨rfl,rfl⟩
  · split<;>exact⟨rfl,rfl⟩
 by_cases h2:(F.blk s.block).term.kind=2
 · have hs:stepR F s=({ s with steps:=wrap64 (s.steps+1),value:=s.int (F.blk s.block).term.var }:RSt).endW 0:=by
    unfold stepR;dsimp only;rw[if_neg h1,if_pos h2];rfl
   have hsb:(stepR F s).block=s.block:=by rw[hs];rfl
   refine⟨?_,by rw[hsb];exact ht⟩;rw[hsb,hs];unfold stepR;dsimp only;rw[hbl,hbi,hbt,hk.1,hk.2,if_neg (show ¬(s.inK (numP F s.block)).pc<(F.blk s.block).insts.length from h1),if_pos h2];rfl
 rcases step_pos hT hI with⟨h3,-⟩|⟨c,hc,hn,hs⟩
 · exact absurd (h3.resolve_left h1) h2
 have hlt:=thB_lt ht;have hl:=(EN_leads hT hlt).1 hc;have htc:=thB_clo hT ht hl;have hbc:(stepR F s).block=c:=by rw[hs];exact(enterR_pos _ _ _).1
 refine⟨?_,by rw[hbc];exact htc⟩;rw[hbc,hs,← enter_pr (s:={ s with steps:=wrap64 (s.steps+1) }) hT htc ht hl rfl];have hk01:(F.blk s.block).term.kind=0∨(F.blk s.block).term.kind=1:=by
  have htb:=(shaped_blk (typed_shaped hT) hlt).2.2;unfold termB at htb
  by_cases e0:(F.blk s.block).term.kind=0
  · exact .inl e0
  · rw[if_neg e0]at htb
    by_cases e1:(F.blk s.block).term.kind=1
    · exact .inr e1
    · rw[if_neg e1,if_neg h2]at htb
      cases htb
 have hn2:nextR F s=if(F.blk s.block).term.kind=0∨s.bools.getD (F.blk s.block).term.var.toNat false=true then(F.blk s.block).term.t0 else(F.blk s.block).term.t1:=if_neg (fun e=>e.elim h1 h2)
 rw[hn]at hn2;unfold stepR;dsimp only;rw[hbl,hbi,hbt,hk.1,hk.2,if_neg (show ¬(s.inK (numP F s.block)).pc<(F.blk s.block).insts.length from h1),if_neg h2];show(if(F.blk s.block).term.kind=0∨s.bools.getD (F.blk s.block).term.var.toNat false=true then enterR (prF F) (prTerm F (F.blk s.block).term).t0.toNat _ else enterR (prF F) (prTerm F (F.blk s.block).term).t1.toNat _)=_;split at hn2
 · rename_i hc0
   rw[if_pos hc0];have:(prTerm F (F.blk s.block).term).t0.toNat=numP F c:=by
    unfold prTerm;rcases hk01 with e|e
    · rw[if_pos e,← hn2]
      simp
    · rw[if_neg (by rw[e];decide),if_pos e,← hn2]
      simp
   rw[this];rfl
 · rename_i hc0
   rw[if_neg hc0];have e:(F.blk s.block).term.kind=1:=hk01.resolve_left fun e=>hc0 (.inl e)
   have:(prTerm F (F.blk s.block).term).t1.toNat=numP F c:=by
    unfold prTerm;rw[if_neg (by rw[e];decide),if_pos e,← hn2];simp
   rw[this];rfl
theorem run_pr(hT:typedP F=true)(hN:NumsR F):∀(k:Nat) (s:RSt),RInv F s→thB F s.block=true→runR (prF F) k (s.inK (numP F s.block))=(runR F k s).inK (numP F (runR F k s).block)
 |0,_,_,_=>rfl
 |k+1,s,hI,ht=>by
  have h:=step_pr hT hI ht;rw[runR,runR];show(if s.ended=true then _ else _)=_;split
  · rfl
  · rw[h.1]
    exact run_pr hT hN k _ (hI.step hT hN) h.2
theorem nums_pr(h:NumsR F):NumsR (prF F):=by
 intro b hb y hy;obtain⟨j,hj,-,rfl⟩:=prBlks_mem hb;exact h _ (mem_of_blk hj) y hy
end
end Go.Proofs.YthhjlbflpjhahaaGreatDoor
