/- The plain law of TidyRuns: the straight program ends just where the program does, alike, in no more steps. -/
import Derived.Test.YthhjlbflpjhahaaGreatDoorTidySZ
import Derived.Test.YthhjlbflpjhahaaGreatDoorTdIZ
import Derived.Test.YthhjlbflpjhahaaGreatDoorTdMZ
import Derived.Test.YthhjlbflpjhahaaGreatDoorPrRZ
import Derived.Test.YthhjlbflpjhahaaGreatDoorRunBZ
namespace Go.Proofs.YthhjlbflpjhahaaGreatDoor
open Go.RowKit
set_option maxRecDepth 100000
theorem SameO.trans{s t u:RSt}(h:SameO s t)(h':SameO t u):SameO s u:=⟨h.ending.trans h'.ending,h.value.trans h'.value,h.trap.trans h'.trap,h.trace.trans h'.trace,h.checks.trans h'.checks⟩
section
variable {F G:PFunc} {I:PIn}
theorem right_pr(h:RightF F I):RightF (prF F) I:=by
 obtain⟨a,b,c,d⟩:=h;exact⟨a,b,c,d⟩
theorem open_t:OpenR (beginR F I):=fun _=>rfl
theorem pr_same(hT:typedP F=true)(hN:NumsR F)(hR:RightF F I)(hIn:InNum I)(k:Nat):SameO (runR F k (beginR F I)) (runR (prF F) k (beginR F I))∧(runR (prF F) k (beginR F I)).steps=(runR F k (beginR F I)).steps:=by
 have h0:thB F (beginR F I).block=true:=(thB_iff (shaped_count (typed_shaped hT)).1).2 (List.mem_of_getLast? (post_fin hT).last);have h:=run_pr hT hN k (beginR F I) (beginR_inv hT hR hIn) h0;rw[show(beginR F I).inK (numP F (beginR F I).block)=beginR F I from rfl]at h;rw[h];exact⟨⟨rfl,rfl,rfl,rfl,rfl⟩,rfl⟩
theorem simV_0{H:PFunc}{v r:Nat→Nat}(hT:typedP H=true)(hv:TidyV H v)(hG:∀(k i:Nat),(hds H)[k]?=some i→∃L T,Ch H i L T∧G.blocks[k]?=some (tidyBlk H v i L T)):SimV H G v r (beginR F I) (beginR F I) 0 0:=by
 have h1:=(shaped_count (typed_shaped hT)).1;have hh:isHd H 0=true:=hd_iff.2 fun a=>by
  cases e:fol H a 0
  · rfl
  · exact absurd rfl (typed_first hT e)
 obtain⟨L,T,hc,hl,hb⟩:=head_blk hv hG hh h1
 have hv0:v 0=0:=hv.hd 0 0 (by
  have:=hds_of h1 hh
  rwa [show cntH H 0=0 from rfl]at this)
 rw[hv0]at hl hb;refine⟨.refl,⟨[],L,T,hc,hl,?_,?_,rfl⟩,hv0.symm,rfl,rfl,Nr _,Nz _⟩
 · show(G.blk 0).insts=_
   rw[hb];rfl
 · show(G.blk 0).term=_
   rw[hb];rfl
section
variable (hT:typedP F=true) (hJ:joinedB F=true) (hN:NumsR F) (hR:RightF F I) (hIn:InNum I) (hG:IsT (prF F) G)
include hT hJ hN hR hIn hG
theorem tidy_fwd{K M:Nat}(hK:K<4611686018427387904)(hM:K≤M)(he:(runR F K (beginR F I)).ending≠3):SameO (runR F K (beginR F I)) (runR G M (beginR F I))∧(runR G M (beginR F I)).steps≤(runR F K (beginR F I)).steps:=by
 obtain⟨hPT,hPJ⟩:=joined_pr hT hJ;obtain⟨v,hv,-,-,-,hG⟩:=hG;obtain⟨h1,h2⟩:=pr_same hT hN hR hIn K;rw[h1.ending]at he;obtain⟨h3,h4⟩:=simV_fwd hPT hPJ (nums_pr hN) (typed_rg hPT) (typed_rk hPT (pr_all hT hPT)) (ordR_le hPT) hv hG (beginR_inv hPT (right_pr hR) hIn) (simV_0 hPT hv hG) open_t hK hM he;exact⟨h1.trans h3,by rw[← h2];exact h4⟩
theorem tidy_bwd{n M:Nat}(hM:M=(1+F.blocks.length)*(n+1))(hB:M<4611686018427387904)(he:(runR G n (beginR F I)).ending≠3):SameO (runR F M (beginR F I)) (runR G n (beginR F I)):=by
 obtain⟨hPT,hPJ⟩:=joined_pr hT hJ;obtain⟨v,hv,-,-,-,hG⟩:=hG;have hl:(prF F).blocks.length≤F.blocks.length:=by
  rw[prF,prBlks_len];exact numP_le _
 have hM2:(1+(prF F).blocks.length)*(n+1)≤M:=by rw[hM];exact Nat.mul_le_mul_right _ ZO
 have h3:SameO (runR (prF F) ((1+(prF F).blocks.length)*(n+1)) (beginR F I)) (runR G n (beginR F I)):=simV_bwd hPT hPJ (nums_pr hN) (typed_rg hPT) (typed_rk hPT (pr_all hT hPT)) (ordR_le hPT) hv hG (beginR_inv hPT (right_pr hR) hIn) (simV_0 hPT hv hG) open_t (n:=n) (M:=(1+(prF F).blocks.length)*(n+1)) rfl (Nat.lt_of_le_of_lt hM2 hB) he;have hend:(runR (prF F) ((1+(prF F).blocks.length)*(n+1)) (beginR F I)).ended=true:=by
  cases e:(runR (prF F) ((1+(prF F).blocks.length)*(n+1)) (beginR F I)).ended
  · have:=run_open (prF F) ((1+(prF F).blocks.length)*(n+1)) (beginR F I) open_t e
    rw[h3.ending]at this;exact absurd this he
  · rfl
 have h5:=run_stop hend hM2;obtain⟨h1,-⟩:=pr_same hT hN hR hIn M;have h6:runR (prF F) M (beginR F I)=runR (prF F) ((1+(prF F).blocks.length)*(n+1)) (beginR F I):=h5;rw[h6]at h1;exact h1.trans h3
end
end
end Go.Proofs.YthhjlbflpjhahaaGreatDoor
