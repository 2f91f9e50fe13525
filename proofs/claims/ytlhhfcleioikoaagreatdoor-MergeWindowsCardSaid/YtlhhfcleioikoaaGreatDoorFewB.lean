/- A little program is little in all its parts. No program's code in sight. -/
import Derived.Test.YtlhhfcleioikoaaGreatDoorFew
import Derived.Test.YtlhhfcleioikoaaGreatDoorJoinP
namespace Go.Proofs.YtlhhfcleioikoaaGreatDoor
open Go.RowKit
set_option maxRecDepth 100000
theorem phisFew_each:∀{l:List PPhi} {m:Nat},phisFew m l=true→∀p∈l,p.args.length≤400∧p.froms.length≤400
 |[],_,_,p,hp=>by simp at hp
 |c::r,m,h,p,hp=>by
  unfold phisFew at h;simp only[Bool.and_eq_true,decide_eq_true_eq]at h;rcases List.mem_cons.1 hp with rfl|hp
  · exact⟨h.1.1.2,h.1.2⟩
  · exact phisFew_each h.2 p hp
theorem instsFew_each:∀{l:List PInst} {m:Nat},instsFew m l=true→∀x∈l,x.args.length≤400
 |[],_,_,p,hp=>by simp at hp
 |c::r,m,h,p,hp=>by
  unfold instsFew at h;simp only[Bool.and_eq_true,decide_eq_true_eq]at h;rcases List.mem_cons.1 hp with rfl|hp
  · exact h.1.2
  · exact instsFew_each h.2 p hp
theorem blksFew_in:∀{l:List PBlock} {m:Nat},blksFew m l=true→∀b∈l,(∀p∈b.phis,p.args.length≤400∧p.froms.length≤400)∧∀x∈b.insts,x.args.length≤400
 |[],_,_,b,hb=>by simp at hb
 |c::r,m,h,b,hb=>by
  unfold blksFew at h;simp only[Bool.and_eq_true]at h;rcases List.mem_cons.1 hb with rfl|hb
  · have:=h.1
    unfold blkFew at this;simp only[Bool.and_eq_true,decide_eq_true_eq]at this;exact⟨phisFew_each this.1.1.2,instsFew_each this.1.2⟩
  · exact blksFew_in h.2 b hb
theorem few_bnd{F:PFunc}(h:fewB F=true):Bnd F:=by
 unfold fewB at h;simp only[Bool.and_eq_true,decide_eq_true_eq]at h;refine⟨ZO,ZO,ZO,fun b hb=>?_,fun b hb p hp=>?_,fun b hb x hx=>?_⟩
 · have:=blksFew_each h.2 b hb
   omega
 · have:=(blksFew_in h.2 b hb).1 p hp
   omega
 · have:=(blksFew_in h.2 b hb).2 x hx
   omega
end Go.Proofs.YtlhhfcleioikoaaGreatDoor
