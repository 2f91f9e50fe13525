/- The plain laws of DeadRuns and DeadAny: what is left out, or made otherwise, nobody needs. -/
import Derived.Test.YtkfobmdodegigaaGreatDoorSimQ
import Derived.Test.YtkfobmdodegigaaGreatDoorDmD
import Derived.Test.YtkfobmdodegigaaGreatDoorDmP
import Derived.Test.YtkfobmdodegigaaGreatDoorRunB
namespace Go.Proofs.YtkfobmdodegigaaGreatDoor
open Go.RowKit
set_option maxRecDepth 100000
section
variable {F:PFunc} {I:PIn} {v:Int}
theorem ndR_int(h0:0≤v)(h1:v<F.vars.length):(ndL F).getD v.toNat false=true↔Nd F v:=by
 have h2:v.toNat<F.vars.length:=by omega
 have h3:(ndL F).getD v.toNat false=ndB F v.toNat:=by simp[ndL,List.getD,h2]
 rw[h3];unfold ndB;simp only[decide_eq_true_eq,Int.toNat_of_nonneg h0]
theorem nd_args(hr:RngF F){b:PBlock}(hb:b∈F.blocks){x:PInst}(hx:x∈b.insts)(h:standB x.op.toNat=true∨(ndL F).getD x.dst.toNat false=true):∀v∈x.args,(ndL F).getD v.toNat false=true:=fun v hv=>by
 obtain⟨v0,v1⟩:=hr.ins b hb x hx v hv;rw[ndR_int v0 v1];cases hs:staysI x
 · have hd:=h.resolve_left (fun e=>by have:staysI x=true:=e;rw[hs]at this;cases this)
   have hd2:=(hr.it (x.dst,x.args) (List.mem_flatMap.2 ⟨b,hb,List.mem_append_right _ (List.mem_map.2 ⟨x,List.mem_filter.2 ⟨hx,by simp[hs]⟩,rfl⟩)⟩)).1;exact .arg hb hx hs ((ndR_int hd2.1 hd2.2).1 hd) hv
 · exact .inst hb hx hs hv
theorem nd_phis(hr:RngF F){b:PBlock}(hb:b∈F.blocks){p:PPhi}(hp:p∈b.phis)(h:(ndL F).getD p.dst.toNat false=true):∀v∈p.args,(ndL F).getD v.toNat false=true:=fun v hv=>by
 obtain⟨hd2,ha⟩:=hr.it (phiIt p) (List.mem_flatMap.2 ⟨b,hb,List.mem_append_left _ (List.mem_map.2 ⟨p,hp,rfl⟩)⟩);obtain⟨v0,v1⟩:=ha v hv;exact(ndR_int v0 v1).2 (.phi hb hp ((ndR_int hd2.1 hd2.2).1 h) hv)
theorem nd_term(hr:RngF F){b:PBlock}(hb:b∈F.blocks)(hk:b.term.kind≠0):(ndL F).getD b.term.var.toNat false=true:=by
 obtain⟨v0,v1⟩:=hr.trm b hb hk;exact(ndR_int v0 v1).2 (.term hb hk)
theorem sw_shF:ShF (keepP (ndL F)) (keepI (ndL F)) (fun x=>x) F=SwF (ndL F) F:=by
 unfold ShF SwF;congr 1;refine List.map_congr_left fun b _=>?_
 unfold shBlk swBlk;rw[List.map_id']
theorem sw_ok(hr:RngF F):ShOk (ndL F) F (keepP (ndL F)) (keepI (ndL F)) (fun x=>x):=
 ⟨fun _ _ _ _ h=>h,fun _ _ x _ h=>by unfold keepI at h;rw[Bool.or_eq_false_iff]at h;exact h,fun _=>⟨rfl,rfl,rfl⟩,fun _ _=>rfl,fun _ hb _ hx h=>nd_args hr hb hx h,fun _ hb _ hp h=>nd_phis hr hb hp h,fun _ hb hk=>nd_term hr hb hk⟩
theorem sim_0{l:List Bool}{ki:PInst→Bool}:Sim F l ki (beginR F I) (beginR F I) 0 0:=⟨.refl,rfl,by show 0=_;rw[show(beginR F I).pc=0 from rfl];rfl,rfl,rfl,Nr _,Nz _,fun _=>rfl⟩
theorem open_0:OpenR (beginR F I):=fun _=>rfl
def chgI(l:List Bool)(by':Int)(g:Int→Int→Int)(x:PInst):PInst:=if x.op=0∧l.getD x.dst.toNat false=false then { x with num:=g x.num by' } else x
def ChF(l:List Bool)(by':Int)(g:Int→Int→Int)(F:PFunc):PFunc:={ F with blocks:=F.blocks.map fun b=>{ b with insts:=b.insts.map (chgI l by' g) } }
theorem chg_same{l:List Bool}{by':Int}{g:Int→Int→Int}(x:PInst):(chgI l by' g x).op=x.op∧(chgI l by' g x).dst=x.dst∧(chgI l by' g x).args=x.args:=by
 unfold chgI;split<;>exact⟨rfl,rfl,rfl⟩
theorem ch_shF{l:List Bool}{by':Int}{g:Int→Int→Int}:ShF (fun _=>true) (fun _=>true) (chgI l by' g) F=ChF l by' g F:=by
 unfold ShF ChF;congr 1;refine List.map_congr_left fun b _=>?_
 unfold shBlk;rw[List.filter_eq_self.2 (fun _ _=>rfl),List.filter_eq_self.2 (fun _ _=>rfl)]
theorem ch_ok(hr:RngF F){by':Int}{g:Int→Int→Int}:ShOk (ndL F) F (fun _=>true) (fun _=>true) (chgI (ndL F) by' g):=
 ⟨fun _ _ _ _ h=>(by cases h),fun _ _ _ _ h=>(by cases h),chg_same,fun x h=>by unfold chgI;rw[if_neg (fun e=>by rw[h]at e;cases e.2)],fun _ hb _ hx h=>nd_args hr hb hx h,fun _ hb _ hp h=>nd_phis hr hb hp h,fun _ hb hk=>nd_term hr hb hk⟩
end
end Go.Proofs.YtkfobmdodegigaaGreatDoor
