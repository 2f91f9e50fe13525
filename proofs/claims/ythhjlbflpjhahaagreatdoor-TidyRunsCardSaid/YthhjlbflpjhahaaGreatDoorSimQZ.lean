/- Two runs side by side: what is needed is the same in both, whatever the other variables have. -/
import Derived.Test.YthhjlbflpjhahaaGreatDoorRunSZ
import Derived.Test.YthhjlbflpjhahaaGreatDoorJoinQZ
namespace Go.Proofs.YthhjlbflpjhahaaGreatDoor
open Go.RowKit
set_option maxRecDepth 100000
structure Alk (l:List Bool) (s t:RSt):Prop where
 li:s.ints.length=t.ints.length
 lb:s.bools.length=t.bools.length
 la:s.arrs.length=t.arrs.length
 ints:∀v:Nat,l.getD v false=true→ith s.ints v=ith t.ints v
 boos:∀v:Nat,l.getD v false=true→s.bools.getD v false=t.bools.getD v false
 arrs:∀v:Nat,l.getD v false=true→ith s.arrs v=ith t.arrs v
 rows:s.rows=t.rows
 ending:s.ending=t.ending
 value:s.value=t.value
 trap:s.trap=t.trap
 trace:s.trace=t.trace
 checks:s.checks=t.checks
 ended:s.ended=t.ended
section
variable {l:List Bool} {s t:RSt} {d a b:Int}
theorem Alk.refl:Alk l s s:=⟨rfl,rfl,rfl,fun _ _=>rfl,fun _ _=>rfl,fun _ _=>rfl,rfl,rfl,rfl,rfl,rfl,rfl,rfl⟩
theorem Alk.int(h:Alk l s t){v:Int}(hv:l.getD v.toNat false=true):s.int v=t.int v:=h.ints _ hv
theorem Alk.boo(h:Alk l s t){v:Int}(hv:l.getD v.toNat false=true):s.boo v=t.boo v:=h.boos _ hv
theorem Alk.arr(h:Alk l s t){v:Int}(hv:l.getD v.toNat false=true):s.arr v=t.arr v:=h.arrs _ hv
theorem set_both{α:Type}{xs ys:List α}{d v:Nat}{x y z:α}(hl:xs.length=ys.length)(h0:xs.getD v z=ys.getD v z)(hd:d=v→x=y):(xs.set d x).getD v z=(ys.set d y).getD v z:=by
 simp only[List.getD_eq_getElem?_getD,List.getElem?_set]at h0 ⊢;split
 · rename_i e
   rw[hd e,hl]
 · exact h0
theorem set_one{α:Type}{xs ys:List α}{d v:Nat}{x z:α}(h0:xs.getD v z=ys.getD v z)(hd:d≠v):(xs.set d x).getD v z=ys.getD v z:=by
 simp only[List.getD_eq_getElem?_getD,List.getElem?_set,if_neg hd]at h0 ⊢;exact h0
theorem Alk.setI(h:Alk l s t)(d:Int)(hab:l.getD d.toNat false=true→a=b):Alk l (s.setI d a) (t.setI d b):=
 ⟨by simpa[RSt.setI]using h.li,h.lb,h.la,fun v hv=>set_both h.li (h.ints v hv) (fun e=>hab (by rw[e];exact hv)),h.boos,h.arrs,h.rows,h.ending,h.value,h.trap,h.trace,h.checks,h.ended⟩
theorem Alk.setB(h:Alk l s t)(d:Int){a b:Bool}(hab:l.getD d.toNat false=true→a=b):Alk l (s.setB d a) (t.setB d b):=
 ⟨h.li,by simpa[RSt.setB]using h.lb,h.la,h.ints,fun v hv=>set_both h.lb (h.boos v hv) (fun e=>hab (by rw[e];exact hv)),h.arrs,h.rows,h.ending,h.value,h.trap,h.trace,h.checks,h.ended⟩
theorem Alk.setA(h:Alk l s t)(d:Int)(hab:l.getD d.toNat false=true→a=b):Alk l (s.setA d a) (t.setA d b):=
 ⟨h.li,h.lb,by simpa[RSt.setA]using h.la,h.ints,h.boos,fun v hv=>set_both h.la (h.arrs v hv) (fun e=>hab (by rw[e];exact hv)),h.rows,h.ending,h.value,h.trap,h.trace,h.checks,h.ended⟩
theorem nne{d:Int}(hd:l.getD d.toNat false=false){v:Nat}(hv:l.getD v false=true):d.toNat≠v:=fun e=>by rw[e,hv]at hd;cases hd
theorem Alk.onlyI(h:Alk l s t)(hd:l.getD d.toNat false=false):Alk l (s.setI d a) t:=
 ⟨by simpa[RSt.setI]using h.li,h.lb,h.la,fun v hv=>set_one (h.ints v hv) (nne hd hv),h.boos,h.arrs,h.rows,h.ending,h.value,h.trap,h.trace,h.checks,h.ended⟩
theorem Alk.onlyB(h:Alk l s t){a:Bool}(hd:l.getD d.toNat false=false):Alk l (s.setB d a) t:=
 ⟨h.li,by simpa[RSt.setB]using h.lb,h.la,h.ints,fun v hv=>set_one (h.boos v hv) (nne hd hv),h.arrs,h.rows,h.ending,h.value,h.trap,h.trace,h.checks,h.ended⟩
theorem Alk.onlyA(h:Alk l s t)(hd:l.getD d.toNat false=false):Alk l (s.setA d a) t:=
 ⟨h.li,h.lb,by simpa[RSt.setA]using h.la,h.ints,h.boos,fun v hv=>set_one (h.arrs v hv) (nne hd hv),h.rows,h.ending,h.value,h.trap,h.trace,h.checks,h.ended⟩
theorem Alk.endW(h:Alk l s t)(e:Int):Alk l (s.endW e) (t.endW e):=⟨h.li,h.lb,h.la,h.ints,h.boos,h.arrs,h.rows,rfl,h.value,h.trap,h.trace,h.checks,rfl⟩
theorem Alk.trapW(h:Alk l s t)(e:Int):Alk l (s.trapW e) (t.trapW e):=⟨h.li,h.lb,h.la,h.ints,h.boos,h.arrs,h.rows,rfl,h.value,rfl,h.trace,h.checks,rfl⟩
theorem Alk.tick(h:Alk l s t)(n:Nat):Alk l (s.tick n) (t.tick n):=⟨h.li,h.lb,h.la,h.ints,h.boos,h.arrs,h.rows,h.ending,h.value,h.trap,h.trace,by simp only[RSt.tick,h.checks],h.ended⟩
theorem Alk.chk(h:Alk l s t)(n:Nat){a b:Bool}(hab:a=b):Alk l (chkR n a s) (chkR n b t):=by
 subst hab;unfold chkR;split
 · exact h.tick n
 · exact(h.tick n).trapW _
theorem Alk.row(h:Alk l s t)(a:Int):s.row a=t.row a:=by unfold RSt.row;rw[h.rows]
theorem Alk.place(h:Alk l s t)(a i:Int):s.placeB a i=t.placeB a i:=by unfold RSt.placeB;rw[h.rows]
theorem Alk.setR(h:Alk l s t)(a i x:Int):Alk l (s.setR a i x) (t.setR a i x):=⟨h.li,h.lb,h.la,h.ints,h.boos,h.arrs,by simp only[RSt.setR,RSt.row,h.rows],h.ending,h.value,h.trap,h.trace,h.checks,h.ended⟩
theorem Alk.addR(h:Alk l s t)(r:List Int):Alk l (s.addR r) (t.addR r):=⟨h.li,h.lb,h.la,h.ints,h.boos,h.arrs,by simp only[RSt.addR,h.rows],h.ending,h.value,h.trap,h.trace,h.checks,h.ended⟩
theorem Alk.addT(h:Alk l s t)(x:Int):Alk l (s.addT x) (t.addT x):=⟨h.li,h.lb,h.la,h.ints,h.boos,h.arrs,h.rows,h.ending,h.value,h.trap,by simp only[RSt.addT,h.trace],h.checks,h.ended⟩
theorem Alk.at(h:Alk l s t)(b p b' p':Nat)(k k':Int):Alk l { s with block:=b,pc:=p,steps:=k } { t with block:=b',pc:=p',steps:=k' }:=⟨h.li,h.lb,h.la,h.ints,h.boos,h.arrs,h.rows,h.ending,h.value,h.trap,h.trace,h.checks,h.ended⟩
theorem takes_all:∀n:Nat,n<27→(takesOf (n:Int)).length=[0,1,2,2,2,2,2,2,2,2,1,2,1,2,3,1,0,1,2,1,1,2,2,2,1,2,2].getD n 0:=by decide +kernel
def standB(o:Nat):Bool:=!([0,1,2,3,4,7,8,9,10,11,16,25,26].contains o)
theorem Alk.inst{F:PFunc}(h:Alk l s t){x y:PInst}{n:Nat}(hn:n<27)(hop:x.op=n)(hx:instB F x=true)(e1:y.dst=x.dst)(e2:y.args=x.args)(e3:n=0→l.getD x.dst.toNat false=true→x.num=y.num)
 (hA:standB n=true∨l.getD x.dst.toNat false=true→∀v∈x.args,l.getD v.toNat false=true):Alk l (instN n s x) (instN n t y):=by
 obtain⟨hv,hl,-⟩:=instB_parts hx;rw[hop]at hl;obtain⟨yo,yd,ya,yn⟩:=y;simp only at e1 e2 e3;subst e1 e2;have ai:(standB n=true∨l.getD x.dst.toNat false=true)→∀i,i<[0,1,2,2,2,2,2,2,2,2,1,2,1,2,3,1,0,1,2,1,1,2,2,2,1,2,2].getD n 0→s.int (ith x.args i)=t.int (ith x.args i)∧s.boo (ith x.args i)=t.boo (ith x.args i)∧s.arr (ith x.args i)=t.arr (ith x.args i):=fun hc i hi=>by
  have hm:=hA hc (ith x.args i) (ith_mem (by rw[hl,takes_all n hn];exact hi));exact⟨h.int hm,h.boo hm,h.arr hm⟩
 have hcopy:0<[0,1,2,2,2,2,2,2,2,2,1,2,1,2,3,1,0,1,2,1,1,2,2,2,1,2,2].getD n 0→Alk l (((s.setI x.dst (s.int (ith x.args 0))).setB x.dst (s.boo (ith x.args 0))).setA x.dst (s.arr (ith x.args 0))) (((t.setI x.dst (t.int (ith x.args 0))).setB x.dst (t.boo (ith x.args 0))).setA x.dst (t.arr (ith x.args 0))):=fun h0=>
  ((h.setI _ fun hd=>(ai (.inr hd) 0 h0).1).setB _ fun hd=>(ai (.inr hd) 0 h0).2.1).setA _ fun hd=>(ai (.inr hd) 0 h0).2.2
 match n,hn with
 |0,_=>exact h.setI _ (e3 rfl)
 |1,_=>exact hcopy ZD
 |2,_=>exact h.setI _ fun hd=>by rw[(ai (.inr hd) 0 ZD).1,(ai (.inr hd) 1 ZD).1]
 |3,_=>exact h.setI _ fun hd=>by rw[(ai (.inr hd) 0 ZD).1,(ai (.inr hd) 1 ZD).1]
 |4,_=>exact h.setI _ fun hd=>by rw[(ai (.inr hd) 0 ZD).1,(ai (.inr hd) 1 ZD).1]
 |5,_=>
  have a0:=(ai (.inl rfl) 0 ZD).1;have a1:=(ai (.inl rfl) 1 ZD).1;show Alk l (if s.int (ith x.args 1)=0 then s.endW 2 else s.setI x.dst (quoP (s.int (ith x.args 0)) (s.int (ith x.args 1)))) (if t.int (ith x.args 1)=0 then t.endW 2 else t.setI x.dst (quoP (t.int (ith x.args 0)) (t.int (ith x.args 1))));rw[a0,a1];split
  · exact h.endW 2
  · exact h.setI _ fun _=>rfl
 |6,_=>
  have a0:=(ai (.inl rfl) 0 ZD).1;have a1:=(ai (.inl rfl) 1 ZD).1;show Alk l (if s.int (ith x.args 1)=0 then s.endW 2 else s.setI x.dst (remP (s.int (ith x.args 0)) (s.int (ith x.args 1)))) (if t.int (ith x.args 1)=0 then t.endW 2 else t.setI x.dst (remP (t.int (ith x.args 0)) (t.int (ith x.args 1))));rw[a0,a1];split
  · exact h.endW 2
  · exact h.setI _ fun _=>rfl
 |7,_=>exact h.setB _ fun hd=>by rw[(ai (.inr hd) 0 ZD).1,(ai (.inr hd) 1 ZD).1]
 |8,_=>exact h.setB _ fun hd=>by rw[(ai (.inr hd) 0 ZD).1,(ai (.inr hd) 1 ZD).1]
 |9,_=>exact h.setB _ fun hd=>by rw[(ai (.inr hd) 0 ZD).1,(ai (.inr hd) 1 ZD).1]
 |10,_=>exact h.setB _ fun hd=>by rw[(ai (.inr hd) 0 ZD).2.1]
 |11,_=>exact h.setB _ fun hd=>by rw[(ai (.inr hd) 0 ZD).2.1,(ai (.inr hd) 1 ZD).2.1]
 |12,_=>
  have a0:=(ai (.inl rfl) 0 ZD).2.2;show Alk l (if s.arr (ith x.args 0)<0 then s.endW 2 else s.setI x.dst (s.row (s.arr (ith x.args 0))).length) (if t.arr (ith x.args 0)<0 then t.endW 2 else t.setI x.dst (t.row (t.arr (ith x.args 0))).length);rw[a0,h.row];split
  · exact h.endW 2
  · exact h.setI _ fun _=>rfl
 |13,_=>
  have a0:=(ai (.inl rfl) 0 ZD).2.2;have a1:=(ai (.inl rfl) 1 ZD).1;show Alk l (if s.placeB (s.arr (ith x.args 0)) (s.int (ith x.args 1))=true then s.setI x.dst (ith (s.row (s.arr (ith x.args 0))) (s.int (ith x.args 1)).toNat) else s.endW 2) (if t.placeB (t.arr (ith x.args 0)) (t.int (ith x.args 1))=true then t.setI x.dst (ith (t.row (t.arr (ith x.args 0))) (t.int (ith x.args 1)).toNat) else t.endW 2);rw[a0,a1,h.place,h.row];split
  · exact h.setI _ fun _=>rfl
  · exact h.endW 2
 |14,_=>
  have a0:=(ai (.inl rfl) 0 ZD).2.2;have a1:=(ai (.inl rfl) 1 ZD).1;have a2:=(ai (.inl rfl) 2 ZD).1;show Alk l (if s.placeB (s.arr (ith x.args 0)) (s.int (ith x.args 1))=true then s.setR (s.arr (ith x.args 0)) (s.int (ith x.args 1)) (s.int (ith x.args 2)) else s.endW 2) (if t.placeB (t.arr (ith x.args 0)) (t.int (ith x.args 1))=true then t.setR (t.arr (ith x.args 0)) (t.int (ith x.args 1)) (t.int (ith x.args 2)) else t.endW 2);rw[a0,a1,a2,h.place];split
  · exact h.setR _ _ _
  · exact h.endW 2
 |15,_=>
  have a0:=(ai (.inl rfl) 0 ZD).1;show Alk l (if s.int (ith x.args 0)<0∨64<s.int (ith x.args 0) then s.endW 2 else if 32≤s.rows.length then s.endW 3 else(s.addR (List.replicate (s.int (ith x.args 0)).toNat 0)).setA x.dst s.rows.length) (if t.int (ith x.args 0)<0∨64<t.int (ith x.args 0) then t.endW 2 else if 32≤t.rows.length then t.endW 3 else(t.addR (List.replicate (t.int (ith x.args 0)).toNat 0)).setA x.dst t.rows.length);rw[a0,h.rows];split
  · exact h.endW 2
  · split
    · exact h.endW 3
    · exact(h.addR _).setA _ fun _=>rfl
 |16,_=>exact h.setA _ fun _=>rfl
 |17,_=>
  have a0:=(ai (.inl rfl) 0 ZD).1;show Alk l (if 4096≤s.trace.length then s.endW 3 else s.addT (s.int (ith x.args 0))) (if 4096≤t.trace.length then t.endW 3 else t.addT (t.int (ith x.args 0)));rw[a0,h.trace];split
  · exact h.endW 3
  · exact h.addT _
 |18,_=>exact h.chk _ (show s.placeB (s.arr (ith x.args 0)) (s.int (ith x.args 1))=t.placeB (t.arr (ith x.args 0)) (t.int (ith x.args 1)) by rw[(ai (.inl rfl) 0 ZD).2.2,(ai (.inl rfl) 1 ZD).1,h.place])
 |19,_=>exact h.chk _ (show decide (0≤s.arr (ith x.args 0))=decide (0≤t.arr (ith x.args 0)) by rw[(ai (.inl rfl) 0 ZD).2.2])
 |20,_=>exact h.chk _ (show(!(s.int (ith x.args 0)==0))=!(t.int (ith x.args 0)==0) by rw[(ai (.inl rfl) 0 ZD).1])
 |21,_=>exact h.chk _ (show fitsA (s.int (ith x.args 0)) (s.int (ith x.args 1))=fitsA (t.int (ith x.args 0)) (t.int (ith x.args 1)) by rw[(ai (.inl rfl) 0 ZD).1,(ai (.inl rfl) 1 ZD).1])
 |22,_=>exact h.chk _ (show fitsS (s.int (ith x.args 0)) (s.int (ith x.args 1))=fitsS (t.int (ith x.args 0)) (t.int (ith x.args 1)) by rw[(ai (.inl rfl) 0 ZD).1,(ai (.inl rfl) 1 ZD).1])
 |23,_=>exact h.chk _ (show fitsM (s.int (ith x.args 0)) (s.int (ith x.args 1))=fitsM (t.int (ith x.args 0)) (t.int (ith x.args 1)) by rw[(ai (.inl rfl) 0 ZD).1,(ai (.inl rfl) 1 ZD).1])
 |24,_=>exact h.chk _ (show(decide (0≤s.int (ith x.args 0))&&decide (s.int (ith x.args 0)≤64))=(decide (0≤t.int (ith x.args 0))&&decide (t.int (ith x.args 0)≤64)) by rw[(ai (.inl rfl) 0 ZD).1])
 |25,_=>exact hcopy ZD
 |26,_=>exact hcopy ZD
 |_+27,hn=>exact absurd hn ZO
theorem Alk.move{o o':RSt}{b:Int}(ho:Alk l o o'){k:PPhi→Bool}:∀{ps:List PPhi},(∀p∈ps,k p=false→l.getD p.dst.toNat false=false)→(∀p∈ps,l.getD p.dst.toNat false=true→l.getD (atOf p.froms p.args b).toNat false=true)→
 ∀{s t:RSt},Alk l s t→Alk l (moveR o ps (gotR ps b) s) (moveR o' (ps.filter k) (gotR (ps.filter k) b) t)
 |[],_,_,_,_,h=>h
 |p::ps,hk,hg,s,t,h=>by
  have ih:=@Alk.move o o' b ho k ps (fun p hp=>hk p (List.mem_cons_of_mem _ hp)) (fun p hp=>hg p (List.mem_cons_of_mem _ hp));have hp:=hg p (List.mem_cons_self ..);cases hkp:k p
  · have hd:=hk p (List.mem_cons_self ..) hkp
    rw[List.filter_cons_of_neg (by rw[hkp];decide)];exact ih (((h.onlyI hd).onlyB hd).onlyA hd)
  · rw[List.filter_cons_of_pos hkp]
    exact ih (((h.setI _ fun hd=>ho.int (hp hd)).setB _ fun hd=>ho.boo (hp hd)).setA _ fun hd=>ho.arr (hp hd))
end
def shBlk(kp:PPhi→Bool)(ki:PInst→Bool)(ch:PInst→PInst)(b:PBlock):PBlock:={ b with phis:=b.phis.filter kp,insts:=(b.insts.filter ki).map ch }
def ShF(kp:PPhi→Bool)(ki:PInst→Bool)(ch:PInst→PInst)(F:PFunc):PFunc:={ F with blocks:=F.blocks.map (shBlk kp ki ch) }
structure ShOk (l:List Bool) (F:PFunc) (kp:PPhi→Bool) (ki:PInst→Bool) (ch:PInst→PInst):Prop where
 tp:∀b∈F.blocks,∀p∈b.phis,kp p=false→l.getD p.dst.toNat false=false
 ti:∀b∈F.blocks,∀x∈b.insts,ki x=false→standB x.op.toNat=false∧l.getD x.dst.toNat false=false
 tc:∀x,(ch x).op=x.op∧(ch x).dst=x.dst∧(ch x).args=x.args
 num:∀x,l.getD x.dst.toNat false=true→(ch x).num=x.num
 nI:∀b∈F.blocks,∀x∈b.insts,standB x.op.toNat=true∨l.getD x.dst.toNat false=true→∀v∈x.args,l.getD v.toNat false=true
 nP:∀b∈F.blocks,∀p∈b.phis,l.getD p.dst.toNat false=true→∀v∈p.args,l.getD v.toNat false=true
 nT:∀b∈F.blocks,b.term.kind≠0→l.getD b.term.var.toNat false=true
theorem atOf_in{b:Int}:∀{fs l:List Int},b∈fs→fs.length=l.length→atOf fs l b∈l
 |f::fs,a::l,h,hl=>by
  unfold atOf;split
  · exact List.mem_cons_self ..
  · rename_i e
    exact List.mem_cons_of_mem _ (atOf_in ((List.mem_cons.1 h).resolve_left fun x=>e x.symm) (by simpa using hl))
 |f::fs,[],_,hl=>by simp at hl
theorem joined_from{F:PFunc}(hT:typedP F=true)(hJ:joinedB F=true){i b:Nat}(hi:i<F.blocks.length)(hb:b<F.blocks.length)(hl:leads (F.blk b).term (i:Int)=true){p:PPhi}(hp:p∈(F.blk i).phis):(b:Int)∈p.froms:=by
 have h1:=List.all_eq_true.1 (List.all_eq_true.1 hJ i (List.mem_range.2 hi)) p hp;unfold joinPhi at h1;rw[decide_eq_true_iff,show(predsOf F).getD i []=ints (predRow F i F.blocks.length)from predsF_row hT hi _ (Nr _)]at h1;have h2:=(sort_row ((ints_pair (predRow_pair (F:=F) (b:=i) F.blocks.length)).imp fun h=>ZO)).1 h1;exact h2.mem_iff.2 (List.mem_map.2 ⟨b,predRow_mem.2 ⟨hb,hl⟩,rfl⟩)
section
variable {F:PFunc} {l:List Bool} {kp:PPhi→Bool} {ki:PInst→Bool} {ch:PInst→PInst} {s t s0:RSt} {k j:Nat}
def OpenR(s:RSt):Prop:=s.ended=false→s.ending=3
theorem inst_open(n:Nat)(s:RSt)(x:PInst)(h:OpenR s):OpenR (instN n s x):=by
 have hchk:∀t ok,OpenR (chkR t ok s):=fun t ok=>by
  unfold chkR;split
  · exact h
  · intro e;cases e
 unfold instN;dsimp only;split<;>(try split)<;>(try split)<;>first|exact h|exact hchk _ _|(intro e;cases e)
theorem move_keep{o:RSt}:∀(ps:List PPhi) (gs:List Int) (s:RSt),(moveR o ps gs s).steps=s.steps∧(moveR o ps gs s).ended=s.ended∧(moveR o ps gs s).ending=s.ending
 |[],_,_=>⟨rfl,rfl,rfl⟩
 |_::_,[],_=>⟨rfl,rfl,rfl⟩
 |p::ps,g::gs,s=>by
  rw[moveR];exact move_keep ps gs _
theorem enter_open(F:PFunc)(c:Nat)(s:RSt)(h:OpenR s):OpenR (enterR F c s):=by
 unfold enterR;split
 · intro e;cases e
 · obtain⟨-,h1,h2⟩:=move_keep (o:=s) (F.blk c).phis (gotR (F.blk c).phis s.block) s
   intro e;exact h2.trans (h (h1.symm.trans e))
theorem step_open(F:PFunc)(s:RSt)(h:OpenR s):OpenR (stepR F s):=by
 unfold stepR;dsimp only;split
 · exact inst_open _ _ _ h
 · split
   · intro e;cases e
   · split<;>exact enter_open _ _ _ h
theorem run_open(F:PFunc):∀(k:Nat) (s:RSt),OpenR s→OpenR (runR F k s)
 |0,_,h=>h
 |k+1,s,h=>by
  rw[runR];split
  · exact h
  · exact run_open F k _ (step_open F s h)
theorem run_end:∀{k:Nat} {s:RSt},s.ended=true→runR F k s=s
 |0,_,_=>rfl
 |k+1,s,h=>by rw[runR,if_pos h]
theorem run_add:∀(k m:Nat) (s:RSt),runR F (k+m) s=runR F m (runR F k s)
 |0,m,s=>by rw[Nat.zero_add];rfl
 |k+1,m,s=>by
  rw[show k+1+m=(k+m)+1 from ZO,runR,runR];split
  · rename_i h
    rw[run_end h]
  · exact run_add k m _
theorem run_snoc(h:(runR F k s).ended=false):runR F (k+1) s=stepR F (runR F k s):=by
 rw[run_add,runR,if_neg (by rw[h];decide)];rfl
theorem run_stop{m:Nat}(h:(runR F k s).ended=true)(hm:k≤m):runR F m s=runR F k s:=by
 rw[show m=k+(m-k)from ZO,run_add,run_end h]
structure Sim (F:PFunc) (l:List Bool) (ki:PInst→Bool) (s t:RSt) (k j:Nat):Prop where
 alk:Alk l s t
 blk:t.block=s.block
 pc:t.pc=(((F.blk s.block).insts.take s.pc).filter ki).length
 ss:s.steps=k
 ts:t.steps=j
 le:j≤k
 bd:k≤j*(1+sumB F.blocks)+s.pc
 all:(∀x,ki x=true)→j=k
theorem wrap_nat{k:Nat}(h:k<4611686018427387904):wrap64 ((k:Int)+1)=((k+1:Nat):Int):=by unfold wrap64;omega
structure SameO (s t:RSt):Prop where
 ending:s.ending=t.ending
 value:s.value=t.value
 trap:s.trap=t.trap
 trace:s.trace=t.trace
 checks:s.checks=t.checks
theorem Alk.out(h:Alk l s t):SameO s t:=⟨h.ending,h.value,h.trap,h.trace,h.checks⟩
section
variable (hok:ShOk l F kp ki ch) (hT:typedP F=true) (hJ:joinedB F=true) (hN:NumsR F) (hI:RInv F s0) (h0:Sim F l ki s0 s0 0 0) (ho:OpenR s0)
include hok hT hJ hN hI h0 ho
end
end
end Go.Proofs.YthhjlbflpjhahaaGreatDoor
