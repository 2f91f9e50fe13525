/- Two runs side by side: what is needed is the same in both, whatever the other variables have. -/
import Derived.Test.YthhjlbflpjhahaaGreatDoorRunSZ
import Derived.Test.YthhjlbflpjhahaaGreatDoorJoinQZ
namespace Go.Proofs.YthhjlbflpjhahaaGreatDoor
open Go.RowKit
set_option maxRecDepth 100000
structure Alk (l:List Bool) (s t:RSt):Prop where
 li:s.ints.length=t.ints.length
 lb:s.bools.length=t.bools.length
 la:s.arrs.length=t.arrs.length
 ints:∀v:Nat,l.getD v false=true→ith s.ints v=ith t.ints v
 boos:∀v:Nat,l.getD v false=true→s.bools.getD v false=t.bools.getD v false
 arrs:∀v:Nat,l.getD v false=true→ith s.arrs v=ith t.arrs v
 rows:s.rows=t.rows
 ending:s.ending=t.ending
 value:s.value=t.value
 trap:s.trap=t.trap
 trace:s.trace=t.trace
 checks:s.checks=t.checks
 ended:s.ended=t.ended
section
variable {l:List Bool} {s t:RSt} {d a b:Int}
theorem Alk.refl:Alk l s s:=⟨rfl,rfl,rfl,fun _ _=>rfl,fun _ _=>rfl,fun _ _=>rfl,rfl,rfl,rfl,rfl,rfl,rfl,rfl⟩
theorem Alk.int(h:Alk l s t){v:Int}(hv:l.getD v.toNat false=true):s.int v=t.int v:=h.ints _ hv
theorem Alk.boo(h:Alk l s t){v:Int}(hv:l.getD v.toNat false=true):s.boo v=t.boo v:=h.boos _ hv
theorem Alk.arr(h:Alk l s t){v:Int}(hv:l.getD v.toNat false=true):s.arr v=t.arr v:=h.arrs _ hv
theorem Ygl{α:Type}{xs ys:List α}{d v:Nat}{x y z:α}(hl:xs.length=ys.length)(h0:xs.getD v z=ys.getD v z)(hd:d=v→x=y):(xs.set d x).getD v z=(ys.set d y).getD v z:=by
 simp only[List.getD_eq_getElem?_getD,List.getElem?_set]at h0 ⊢;split
 · rename_i e
   rw[hd e,hl]
 · exact h0
theorem Ydt{α:Type}{xs ys:List α}{d v:Nat}{x z:α}(h0:xs.getD v z=ys.getD v z)(hd:d≠v):(xs.set d x).getD v z=ys.getD v z:=by
 simp only[List.getD_eq_getElem?_getD,List.getElem?_set,if_neg hd]at h0 ⊢;exact h0
theorem Alk.setI(h:Alk l s t)(d:Int)(hab:l.getD d.toNat false=true→a=b):Alk l (s.setI d a) (t.setI d b):=
 ⟨by simpa[RSt.setI]using h.li,h.lb,h.la,fun v hv=>Ygl h.li (h.ints v hv) (fun e=>hab (by rw[e];exact hv)),h.boos,h.arrs,h.rows,h.ending,h.value,h.trap,h.trace,h.checks,h.ended⟩
theorem Alk.setB(h:Alk l s t)(d:Int){a b:Bool}(hab:l.getD d.toNat false=true→a=b):Alk l (s.setB d a) (t.setB d b):=
 ⟨h.li,by simpa[RSt.setB]using h.lb,h.la,h.ints,fun v hv=>Ygl h.lb (h.boos v hv) (fun e=>hab (by rw[e];exact hv)),h.arrs,h.rows,h.ending,h.value,h.trap,h.trace,h.checks,h.ended⟩
theorem Alk.setA(h:Alk l s t)(d:Int)(hab:l.getD d.toNat false=true→a=b):Alk l (s.setA d a) (t.setA d b):=
 ⟨h.li,h.lb,by simpa[RSt.setA]using h.la,h.ints,h.boos,fun v hv=>Ygl h.la (h.arrs v hv) (fun e=>hab (by rw[e];exact hv)),h.rows,h.ending,h.value,h.trap,h.trace,h.checks,h.ended⟩
theorem nne{d:Int}(hd:l.getD d.toNat false=false){v:Nat}(hv:l.getD v false=true):d.toNat≠v:=fun e=>by rw[e,hv]at hd;cases hd
theorem Alk.onlyI(h:Alk l s t)(hd:l.getD d.toNat false=false):Alk l (s.setI d a) t:=
 ⟨by simpa[RSt.setI]using h.li,h.lb,h.la,fun v hv=>Ydt (h.ints v hv) (nne hd hv),h.boos,h.arrs,h.rows,h.ending,h.value,h.trap,h.trace,h.checks,h.ended⟩
theorem Alk.onlyB(h:Alk l s t){a:Bool}(hd:l.getD d.toNat false=false):Alk l (s.setB d a) t:=
 ⟨h.li,by simpa[RSt.setB]using h.lb,h.la,h.ints,fun v hv=>Ydt (h.boos v hv) (nne hd hv),h.arrs,h.rows,h.ending,h.value,h.trap,h.trace,h.checks,h.ended⟩
theorem Alk.onlyA(h:Alk l s t)(hd:l.getD d.toNat false=false):Alk l (s.setA d a) t:=
 ⟨h.li,h.lb,by simpa[RSt.setA]using h.la,h.ints,h.boos,fun v hv=>Ydt (h.arrs v hv) (nne hd hv),h.rows,h.ending,h.value,h.trap,h.trace,h.checks,h.ended⟩
theorem Alk.endW(h:Alk l s t)(e:Int):Alk l (s.endW e) (t.endW e):=⟨h.li,h.lb,h.la,h.ints,h.boos,h.arrs,h.rows,rfl,h.value,h.trap,h.trace,h.checks,rfl⟩
theorem Alk.trapW(h:Alk l s t)(e:Int):Alk l (s.trapW e) (t.trapW e):=⟨h.li,h.lb,h.la,h.ints,h.boos,h.arrs,h.rows,rfl,h.value,rfl,h.trace,h.checks,rfl⟩
theorem Alk.tick(h:Alk l s t)(n:Nat):Alk l (s.tick n) (t.tick n):=⟨h.li,h.lb,h.la,h.ints,h.boos,h.arrs,h.rows,h.ending,h.value,h.trap,h.trace,by simp only[RSt.tick,h.checks],h.ended⟩
theorem Alk.chk(h:Alk l s t)(n:Nat){a b:Bool}(hab:a=b):Alk l (Ybe n a s) (Ybe n b t):=by
 subst hab;unfold Ybe;split
 · exact h.tick n
 · exact(h.tick n).trapW _
theorem Alk.row(h:Alk l s t)(a:Int):s.row a=t.row a:=by unfold RSt.row;rw[h.rows]
theorem Alk.place(h:Alk l s t)(a i:Int):s.placeB a i=t.placeB a i:=by unfold RSt.placeB;rw[h.rows]
theorem Alk.setR(h:Alk l s t)(a i x:Int):Alk l (s.setR a i x) (t.setR a i x):=⟨h.li,h.lb,h.la,h.ints,h.boos,h.arrs,by simp only[RSt.setR,RSt.row,h.rows],h.ending,h.value,h.trap,h.trace,h.checks,h.ended⟩
theorem Alk.addR(h:Alk l s t)(r:List Int):Alk l (s.addR r) (t.addR r):=⟨h.li,h.lb,h.la,h.ints,h.boos,h.arrs,by simp only[RSt.addR,h.rows],h.ending,h.value,h.trap,h.trace,h.checks,h.ended⟩
theorem Alk.addT(h:Alk l s t)(x:Int):Alk l (s.addT x) (t.addT x):=⟨h.li,h.lb,h.la,h.ints,h.boos,h.arrs,h.rows,h.ending,h.value,h.trap,by simp only[RSt.addT,h.trace],h.checks,h.ended⟩
theorem Alk.at(h:Alk l s t)(b p b' p':Nat)(k k':Int):Alk l { s with block:=b,pc:=p,steps:=k } { t with block:=b',pc:=p',steps:=k' }:=⟨h.li,h.lb,h.la,h.ints,h.boos,h.arrs,h.rows,h.ending,h.value,h.trap,h.trace,h.checks,h.ended⟩
theorem Ynr:∀n:Nat,n<27→(YH (n:Int)).length=[0,1,2,2,2,2,2,2,2,2,1,2,1,2,3,1,0,1,2,1,1,2,2,2,1,2,2].getD n 0:=by decide +kernel
def Ydu(o:Nat):Bool:=!([0,1,2,3,4,7,8,9,10,11,16,25,26].contains o)
theorem Alk.inst{F:PFunc}(h:Alk l s t){x y:PInst}{n:Nat}(hn:n<27)(hop:x.op=n)(hx:Yj F x=true)(e1:y.dst=x.dst)(e2:y.args=x.args)(e3:n=0→l.getD x.dst.toNat false=true→x.num=y.num)
 (hA:Ydu n=true∨l.getD x.dst.toNat false=true→∀v∈x.args,l.getD v.toNat false=true):Alk l (instN n s x) (instN n t y):=by
 obtain⟨hv,hl,-⟩:=YaR hx;rw[hop]at hl;obtain⟨yo,yd,ya,yn⟩:=y;simp only at e1 e2 e3;subst e1 e2;have ai:(Ydu n=true∨l.getD x.dst.toNat false=true)→∀i,i<[0,1,2,2,2,2,2,2,2,2,1,2,1,2,3,1,0,1,2,1,1,2,2,2,1,2,2].getD n 0→s.int (ith x.args i)=t.int (ith x.args i)∧s.boo (ith x.args i)=t.boo (ith x.args i)∧s.arr (ith x.args i)=t.arr (ith x.args i):=fun hc i hi=>by
  have hm:=hA hc (ith x.args i) (Ycb (by rw[hl,Ynr n hn];exact hi));exact⟨h.int hm,h.boo hm,h.arr hm⟩
 have hcopy:0<[0,1,2,2,2,2,2,2,2,2,1,2,1,2,3,1,0,1,2,1,1,2,2,2,1,2,2].getD n 0→Alk l (((s.setI x.dst (s.int (ith x.args 0))).setB x.dst (s.boo (ith x.args 0))).setA x.dst (s.arr (ith x.args 0))) (((t.setI x.dst (t.int (ith x.args 0))).setB x.dst (t.boo (ith x.args 0))).setA x.dst (t.arr (ith x.args 0))):=fun h0=>
  ((h.setI _ fun hd=>(ai (.inr hd) 0 h0).1).setB _ fun hd=>(ai (.inr hd) 0 h0).2.1).setA _ fun hd=>(ai (.inr hd) 0 h0).2.2
 match n,hn with
 |0,_=>exact h.setI _ (e3 rfl)
 |1,_=>exact hcopy ZD
 |2,_=>exact h.setI _ fun hd=>by rw[(ai (.inr hd) 0 ZD).1,(ai (.inr hd) 1 ZD).1]
 |3,_=>exact h.setI _ fun hd=>by rw[(ai (.inr hd) 0 ZD).1,(ai (.inr hd) 1 ZD).1]
 |4,_=>exact h.setI _ fun hd=>by rw[(ai (.inr hd) 0 ZD).1,(ai (.inr hd) 1 ZD).1]
 |5,_=>
  have a0:=(ai (.inl rfl) 0 ZD).1;have a1:=(ai (.inl rfl) 1 ZD).1;show Alk l (if s.int (ith x.args 1)=0 then s.endW 2 else s.setI x.dst (Ycn (s.int (ith x.args 0)) (s.int (ith x.args 1)))) (if t.int (ith x.args 1)=0 then t.endW 2 else t.setI x.dst (Ycn (t.int (ith x.args 0)) (t.int (ith x.args 1))));rw[a0,a1];split
  · exact h.endW 2
  · exact h.setI _ fun _=>rfl
 |6,_=>
  have a0:=(ai (.inl rfl) 0 ZD).1;have a1:=(ai (.inl rfl) 1 ZD).1;show Alk l (if s.int (ith x.args 1)=0 then s.endW 2 else s.setI x.dst (Yco (s.int (ith x.args 0)) (s.int (ith x.args 1)))) (if t.int (ith x.args 1)=0 then t.endW 2 else t.setI x.dst (Yco (t.int (ith x.args 0)) (t.int (ith x.args 1))));rw[a0,a1];split
  · exact h.endW 2
  · exact h.setI _ fun _=>rfl
 |7,_=>exact h.setB _ fun hd=>by rw[(ai (.inr hd) 0 ZD).1,(ai (.inr hd) 1 ZD).1]
 |8,_=>exact h.setB _ fun hd=>by rw[(ai (.inr hd) 0 ZD).1,(ai (.inr hd) 1 ZD).1]
 |9,_=>exact h.setB _ fun hd=>by rw[(ai (.inr hd) 0 ZD).1,(ai (.inr hd) 1 ZD).1]
 |10,_=>exact h.setB _ fun hd=>by rw[(ai (.inr hd) 0 ZD).2.1]
 |11,_=>exact h.setB _ fun hd=>by rw[(ai (.inr hd) 0 ZD).2.1,(ai (.inr hd) 1 ZD).2.1]
 |12,_=>
  have a0:=(ai (.inl rfl) 0 ZD).2.2;show Alk l (if s.arr (ith x.args 0)<0 then s.endW 2 else s.setI x.dst (s.row (s.arr (ith x.args 0))).length) (if t.arr (ith x.args 0)<0 then t.endW 2 else t.setI x.dst (t.row (t.arr (ith x.args 0))).length);rw[a0,h.row];split
  · exact h.endW 2
  · exact h.setI _ fun _=>rfl
 |13,_=>
  have a0:=(ai (.inl rfl) 0 ZD).2.2;have a1:=(ai (.inl rfl) 1 ZD).1;show Alk l (if s.placeB (s.arr (ith x.args 0)) (s.int (ith x.args 1))=true then s.setI x.dst (ith (s.row (s.arr (ith x.args 0))) (s.int (ith x.args 1)).toNat) else s.endW 2) (if t.placeB (t.arr (ith x.args 0)) (t.int (ith x.args 1))=true then t.setI x.dst (ith (t.row (t.arr (ith x.args 0))) (t.int (ith x.args 1)).toNat) else t.endW 2);rw[a0,a1,h.place,h.row];split
  · exact h.setI _ fun _=>rfl
  · exact h.endW 2
 |14,_=>
  have a0:=(ai (.inl rfl) 0 ZD).2.2;have a1:=(ai (.inl rfl) 1 ZD).1;have a2:=(ai (.inl rfl) 2 ZD).1;show Alk l (if s.placeB (s.arr (ith x.args 0)) (s.int (ith x.args 1))=true then s.setR (s.arr (ith x.args 0)) (s.int (ith x.args 1)) (s.int (ith x.args 2)) else s.endW 2) (if t.placeB (t.arr (ith x.args 0)) (t.int (ith x.args 1))=true then t.setR (t.arr (ith x.args 0)) (t.int (ith x.args 1)) (t.int (ith x.args 2)) else t.endW 2);rw[a0,a1,a2,h.place];split
  · exact h.setR _ _ _
  · exact h.endW 2
 |15,_=>
  have a0:=(ai (.inl rfl) 0 ZD).1;show Alk l (if s.int (ith x.args 0)<0∨64<s.int (ith x.args 0) then s.endW 2 else if 32≤s.rows.length then s.endW 3 else(s.addR (List.replicate (s.int (ith x.args 0)).toNat 0)).setA x.dst s.rows.length) (if t.int (ith x.args 0)<0∨64<t.int (ith x.args 0) then t.endW 2 else if 32≤t.rows.length then t.endW 3 else(t.addR (List.replicate (t.int (ith x.args 0)).toNat 0)).setA x.dst t.rows.length);rw[a0,h.rows];split
  · exact h.endW 2
  · split
    · exact h.endW 3
    · exact(h.addR _).setA _ fun _=>rfl
 |16,_=>exact h.setA _ fun _=>rfl
 |17,_=>
  have a0:=(ai (.inl rfl) 0 ZD).1;show Alk l (if 4096≤s.trace.length then s.endW 3 else s.addT (s.int (ith x.args 0))) (if 4096≤t.trace.length then t.endW 3 else t.addT (t.int (ith x.args 0)));rw[a0,h.trace];split
  · exact h.endW 3
  · exact h.addT _
 |18,_=>exact h.chk _ (show s.placeB (s.arr (ith x.args 0)) (s.int (ith x.args 1))=t.placeB (t.arr (ith x.args 0)) (t.int (ith x.args 1)) by rw[(ai (.inl rfl) 0 ZD).2.2,(ai (.inl rfl) 1 ZD).1,h.place])
 |19,_=>exact h.chk _ (show decide (0≤s.arr (ith x.args 0))=decide (0≤t.arr (ith x.args 0)) by rw[(ai (.inl rfl) 0 ZD).2.2])
 |20,_=>exact h.chk _ (show(!(s.int (ith x.args 0)==0))=!(t.int (ith x.args 0)==0) by rw[(ai (.inl rfl) 0 ZD).1])
 |21,_=>exact h.chk _ (show YcZ (s.int (ith x.args 0)) (s.int (ith x.args 1))=YcZ (t.int (ith x.args 0)) (t.int (ith x.args 1)) by rw[(ai (.inl rfl) 0 ZD).1,(ai (.inl rfl) 1 ZD).1])
 |22,_=>exact h.chk _ (show Yc0 (s.int (ith x.args 0)) (s.int (ith x.args 1))=Yc0 (t.int (ith x.args 0)) (t.int (ith x.args 1)) by rw[(ai (.inl rfl) 0 ZD).1,(ai (.inl rfl) 1 ZD).1])
 |23,_=>exact h.chk _ (show YbV (s.int (ith x.args 0)) (s.int (ith x.args 1))=YbV (t.int (ith x.args 0)) (t.int (ith x.args 1)) by rw[(ai (.inl rfl) 0 ZD).1,(ai (.inl rfl) 1 ZD).1])
 |24,_=>exact h.chk _ (show(decide (0≤s.int (ith x.args 0))&&decide (s.int (ith x.args 0)≤64))=(decide (0≤t.int (ith x.args 0))&&decide (t.int (ith x.args 0)≤64)) by rw[(ai (.inl rfl) 0 ZD).1])
 |25,_=>exact hcopy ZD
 |26,_=>exact hcopy ZD
 |_+27,hn=>exact absurd hn ZO
theorem Alk.drop(h:Alk l s t){x:PInst}{n:Nat}(hn:n<27)(hs:Ydu n=false)(hd:l.getD x.dst.toNat false=false):Alk l (instN n s x) t:=by
 have hcopy:∀a b c,Alk l (((s.setI x.dst a).setB x.dst b).setA x.dst c) t:=fun a b c=>((h.onlyI hd).onlyB hd).onlyA hd
 match n,hn with
 |0,_=>exact h.onlyI hd
 |1,_=>exact hcopy _ _ _
 |2,_=>exact h.onlyI hd
 |3,_=>exact h.onlyI hd
 |4,_=>exact h.onlyI hd
 |7,_=>exact h.onlyB hd
 |8,_=>exact h.onlyB hd
 |9,_=>exact h.onlyB hd
 |10,_=>exact h.onlyB hd
 |11,_=>exact h.onlyB hd
 |16,_=>exact h.onlyA hd
 |25,_=>exact hcopy _ _ _
 |26,_=>exact hcopy _ _ _
 |5,_=>cases hs
 |6,_=>cases hs
 |12,_=>cases hs
 |13,_=>cases hs
 |14,_=>cases hs
 |15,_=>cases hs
 |17,_=>cases hs
 |18,_=>cases hs
 |19,_=>cases hs
 |20,_=>cases hs
 |21,_=>cases hs
 |22,_=>cases hs
 |23,_=>cases hs
 |24,_=>cases hs
 |_+27,hn=>exact absurd hn ZO
theorem Alk.move{o o':RSt}{b:Int}(ho:Alk l o o'){k:PPhi→Bool}:∀{ps:List PPhi},(∀p∈ps,k p=false→l.getD p.dst.toNat false=false)→(∀p∈ps,l.getD p.dst.toNat false=true→l.getD (Yt p.froms p.args b).toNat false=true)→
 ∀{s t:RSt},Alk l s t→Alk l (YQ o ps (Yu ps b) s) (YQ o' (ps.filter k) (Yu (ps.filter k) b) t)
 |[],_,_,_,_,h=>h
 |p::ps,hk,hg,s,t,h=>by
  have ih:=@Alk.move o o' b ho k ps (fun p hp=>hk p (List.mem_cons_of_mem _ hp)) (fun p hp=>hg p (List.mem_cons_of_mem _ hp));have hp:=hg p (List.mem_cons_self ..);cases hkp:k p
  · have hd:=hk p (List.mem_cons_self ..) hkp
    rw[List.filter_cons_of_neg (by rw[hkp];decide)];exact ih (((h.onlyI hd).onlyB hd).onlyA hd)
  · rw[List.filter_cons_of_pos hkp]
    exact ih (((h.setI _ fun hd=>ho.int (hp hd)).setB _ fun hd=>ho.boo (hp hd)).setA _ fun hd=>ho.arr (hp hd))
end
def Yeg(kp:PPhi→Bool)(ki:PInst→Bool)(ch:PInst→PInst)(b:PBlock):PBlock:={ b with phis:=b.phis.filter kp,insts:=(b.insts.filter ki).map ch }
def ShF(kp:PPhi→Bool)(ki:PInst→Bool)(ch:PInst→PInst)(F:PFunc):PFunc:={ F with blocks:=F.blocks.map (Yeg kp ki ch) }
structure Yeh (l:List Bool) (F:PFunc) (kp:PPhi→Bool) (ki:PInst→Bool) (ch:PInst→PInst):Prop where
 tp:∀b∈F.blocks,∀p∈b.phis,kp p=false→l.getD p.dst.toNat false=false
 ti:∀b∈F.blocks,∀x∈b.insts,ki x=false→Ydu x.op.toNat=false∧l.getD x.dst.toNat false=false
 tc:∀x,(ch x).op=x.op∧(ch x).dst=x.dst∧(ch x).args=x.args
 num:∀x,l.getD x.dst.toNat false=true→(ch x).num=x.num
 nI:∀b∈F.blocks,∀x∈b.insts,Ydu x.op.toNat=true∨l.getD x.dst.toNat false=true→∀v∈x.args,l.getD v.toNat false=true
 nP:∀b∈F.blocks,∀p∈b.phis,l.getD p.dst.toNat false=true→∀v∈p.args,l.getD v.toNat false=true
 nT:∀b∈F.blocks,b.term.kind≠0→l.getD b.term.var.toNat false=true
theorem Yiq{α:Type}{p:α→Bool}{x:α}:∀{l:List α} {k:Nat},l[k]?=some x→p x=true→(l.filter p)[((l.take k).filter p).length]?=some x
 |[],_,h,_=>by simp at h
 |a::l,0,h,hp=>by
  simp only[List.getElem?_cons_zero,Option.some.injEq]at h;subst h;simp[hp]
 |a::l,k+1,h,hp=>by
  have ih:=Yiq (l:=l) (k:=k) (by simpa using h) hp;cases ha:p a<;>simp[ha,ih]
theorem Yns{α:Type}{p:α→Bool}{x:α}{l:List α}{k:Nat}(h:l[k]?=some x):((l.take (k+1)).filter p).length=((l.take k).filter p).length+if p x=true then 1 else 0:=by
 rw[List.take_add_one,h,List.filter_append,List.length_append];cases hp:p x<;>simp[hp]
theorem Yir{b:Int}:∀{fs l:List Int},b∈fs→fs.length=l.length→Yt fs l b∈l
 |f::fs,a::l,h,hl=>by
  unfold Yt;split
  · exact List.mem_cons_self ..
  · rename_i e
    exact List.mem_cons_of_mem _ (Yir ((List.mem_cons.1 h).resolve_left fun x=>e x.symm) (by simpa using hl))
 |f::fs,[],_,hl=>by simp at hl
theorem Ygm{F:PFunc}(hT:Yd F=true)(hJ:Y1 F=true){i b:Nat}(hi:i<F.blocks.length)(hb:b<F.blocks.length)(hl:leads (F.blk b).term (i:Int)=true){p:PPhi}(hp:p∈(F.blk i).phis):(b:Int)∈p.froms:=by
 have h1:=List.all_eq_true.1 (List.all_eq_true.1 hJ i (List.mem_range.2 hi)) p hp;unfold Ybq at h1;rw[decide_eq_true_iff,show(Ybu F).getD i []=ints (YP F i F.blocks.length)from Yd6 hT hi _ (Nr _)]at h1;have h2:=(Yf8 ((Yf7 (Yea (F:=F) (b:=i) F.blocks.length)).imp fun h=>ZO)).1 h1;exact h2.mem_iff.2 (List.mem_map.2 ⟨b,Yb8.2 ⟨hb,hl⟩,rfl⟩)
theorem Ygn:∀{bs:List PBlock} {b:PBlock},b∈bs→b.insts.length≤Yo bs
 |[],_,h=>by simp at h
 |a::r,b,h=>by
  unfold Yo;rcases List.mem_cons.1 h with rfl|h
  · exact ZO
  · have:=Ygn h
    omega
section
variable {F:PFunc} {l:List Bool} {kp:PPhi→Bool} {ki:PInst→Bool} {ch:PInst→PInst} {s t s0:RSt} {k j:Nat}
theorem Yis{i:Nat}(h:i<F.blocks.length):(ShF kp ki ch F).blk i=Yeg kp ki ch (F.blk i):=by simp[PFunc.blk,ShF,h]
def YbW(s:RSt):Prop:=s.ended=false→s.ending=3
theorem Ynt(n:Nat)(s:RSt)(x:PInst)(h:YbW s):YbW (instN n s x):=by
 have hchk:∀t ok,YbW (Ybe t ok s):=fun t ok=>by
  unfold Ybe;split
  · exact h
  · intro e;cases e
 unfold instN;dsimp only;split<;>(try split)<;>(try split)<;>first|exact h|exact hchk _ _|(intro e;cases e)
theorem Ye2{o:RSt}:∀(ps:List PPhi) (gs:List Int) (s:RSt),(YQ o ps gs s).steps=s.steps∧(YQ o ps gs s).ended=s.ended∧(YQ o ps gs s).ending=s.ending
 |[],_,_=>⟨rfl,rfl,rfl⟩
 |_::_,[],_=>⟨rfl,rfl,rfl⟩
 |p::ps,g::gs,s=>by
  rw[YQ];exact Ye2 ps gs _
theorem Ynu(F:PFunc)(c:Nat)(s:RSt)(h:YbW s):YbW (YM F c s):=by
 unfold YM;split
 · intro e;cases e
 · obtain⟨-,h1,h2⟩:=Ye2 (o:=s) (F.blk c).phis (Yu (F.blk c).phis s.block) s
   intro e;exact h2.trans (h (h1.symm.trans e))
theorem Ynv(F:PFunc)(s:RSt)(h:YbW s):YbW (Yx F s):=by
 unfold Yx;dsimp only;split
 · exact Ynt _ _ _ h
 · split
   · intro e;cases e
   · split<;>exact Ynu _ _ _ h
theorem Ygo(F:PFunc):∀(k:Nat) (s:RSt),YbW s→YbW (Yf F k s)
 |0,_,h=>h
 |k+1,s,h=>by
  rw[Yf];split
  · exact h
  · exact Ygo F k _ (Ynv F s h)
theorem Yit:∀{k:Nat} {s:RSt},s.ended=true→Yf F k s=s
 |0,_,_=>rfl
 |k+1,s,h=>by rw[Yf,if_pos h]
theorem Ygp:∀(k m:Nat) (s:RSt),Yf F (k+m) s=Yf F m (Yf F k s)
 |0,m,s=>by rw[Nat.zero_add];rfl
 |k+1,m,s=>by
  rw[show k+1+m=(k+m)+1 from ZO,Yf,Yf];split
  · rename_i h
    rw[Yit h]
  · exact Ygp k m _
theorem Yiu(h:(Yf F k s).ended=false):Yf F (k+1) s=Yx F (Yf F k s):=by
 rw[Ygp,Yf,if_neg (by rw[h];decide)];rfl
theorem Yei{m:Nat}(h:(Yf F k s).ended=true)(hm:k≤m):Yf F m s=Yf F k s:=by
 rw[show m=k+(m-k)from ZO,Ygp,Yit h]
structure Sim (F:PFunc) (l:List Bool) (ki:PInst→Bool) (s t:RSt) (k j:Nat):Prop where
 alk:Alk l s t
 blk:t.block=s.block
 pc:t.pc=(((F.blk s.block).insts.take s.pc).filter ki).length
 ss:s.steps=k
 ts:t.steps=j
 le:j≤k
 bd:k≤j*(1+Yo F.blocks)+s.pc
 all:(∀x,ki x=true)→j=k
theorem Yiv{k:Nat}(h:k<4611686018427387904):wrap64 ((k:Int)+1)=((k+1:Nat):Int):=by unfold wrap64;omega
theorem Sim.enter(hok:Yeh l F kp ki ch)(hT:Yd F=true)(hJ:Y1 F=true)(hI:RInv F s)(h:Alk l s t)(hb:t.block=s.block){c:Nat}(hc:c∈EN F s.block):Alk l (YM F c s) (YM (ShF kp ki ch F) c t)∧(YM F c s).block=c∧(YM (ShF kp ki ch F) c t).block=c∧(YM F c s).pc=0∧(YM (ShF kp ki ch F) c t).pc=0∧(YM F c s).steps=s.steps∧(YM (ShF kp ki ch F) c t).steps=t.steps:=by
 have hlt:=YbC hT hI.blk c hc;have hld:=(Ybx hT hI.blk).1 hc;have hphi:∀p∈(F.blk c).phis,Yt p.froms p.args s.block∈p.args:=fun p hp=>by
  refine Yir (Ygm hT hJ hlt hI.blk hld hp) ?_;have:=(Yaw (YcH hT) hlt).1 p hp;unfold YI at this;simp only[Bool.and_eq_true,decide_eq_true_eq]at this;exact this.1.1.1.2.symm
 have hpos:∀p∈(F.blk c).phis,0≤Yt p.froms p.args s.block:=fun p hp=>by
  have:=(Yaw (YcH hT) hlt).1 p hp;unfold YI at this;simp only[Bool.and_eq_true]at this;exact(Y2 (List.all_eq_true.1 this.1.2 _ (hphi p hp))).1
 have hno:∀(ps:List PPhi),(∀p∈ps,p∈(F.blk c).phis)→(Yu ps s.block).any (fun g=>decide (g<0))=false:=fun ps hps=>by
  rw[List.any_eq_false];intro g hg;obtain⟨p,hp,rfl⟩:=List.mem_map.1 hg;have:=hpos p (hps p hp);simpa using this
 have hG:((ShF kp ki ch F).blk c).phis=(F.blk c).phis.filter kp:=by rw[Yis hlt];rfl
 have e1:YM F c s=(YQ s (F.blk c).phis (Yu (F.blk c).phis s.block) s).goTo c:=by
  unfold YM;rw[if_neg (by rw[hno _ fun _ h=>h];decide)]
 have e2:YM (ShF kp ki ch F) c t=(YQ t ((F.blk c).phis.filter kp) (Yu ((F.blk c).phis.filter kp) s.block) t).goTo c:=by
  unfold YM;rw[hG,hb,if_neg (by rw[hno _ fun p hp=>(List.mem_filter.1 hp).1];decide)]
 have m:=h.move (b:=s.block) (k:=kp) (ps:=(F.blk c).phis) (fun p hp hk=>hok.tp _ (YK hlt) p hp hk) (fun p hp hd=>hok.nP _ (YK hlt) p hp hd _ (hphi p hp)) h;rw[e1,e2];exact⟨m.at _ _ _ _ _ _,rfl,rfl,rfl,rfl,(Ye2 _ _ _).1,(Ye2 _ _ _).1⟩
theorem Sim.step(hok:Yeh l F kp ki ch)(hT:Yd F=true)(hJ:Y1 F=true)(hI:RInv F s)(h:Sim F l ki s t k j)(hk:k<4611686018427387904) :
 Sim F l ki (Yx F s) t (k+1) j∨Sim F l ki (Yx F s) (Yx (ShF kp ki ch F) t) (k+1) (j+1):=by
 have hbm:=YK hI.blk;have hS:=Yaw (YcH hT) hI.blk;have hsum:=Ygn hbm;have hbl:(ShF kp ki ch F).blk t.block=Yeg kp ki ch (F.blk s.block):=by rw[h.blk,Yis hI.blk]
 have wk:wrap64 (s.steps+1)=((k+1:Nat):Int):=by rw[h.ss];exact Yiv hk
 have wj:wrap64 (t.steps+1)=((j+1:Nat):Int):=by rw[h.ts];exact Yiv (by have:=h.le;omega)
 have hle:=h.le;have hbd:=h.bd;have hal:=h.all
 by_cases h1:s.pc<(F.blk s.block).insts.length
 · have hm:=Ye0 h1
   have hg:=PBlock.inst_get h1;have hx:=hS.2.1 _ hm;have hop:YaA ((F.blk s.block).inst s.pc).op=true:=by
    have:=hx;unfold Yj at this;simp only[Bool.and_eq_true]at this;exact this.1.1.1.1
   obtain⟨n,hn,hn2⟩:=Yae hop;have e1:=YcI h1;rw[wk,Yca]at e1;generalize (F.blk s.block).inst s.pc=x at *;have ho:x.op.toNat=n:=by rw[hn,Int.toNat_natCast]
   rw[ho]at e1;obtain⟨q1,q2,q3⟩:=YeZ n { s with steps:=((k+1:Nat):Int),pc:=s.pc+1 } x;have hcnt:=Yns (p:=ki) hg;cases hkx:ki x
   · left
     obtain⟨d1,d2⟩:=hok.ti _ hbm x hm hkx;rw[ho]at d1;rw[hkx]at hcnt;rw[e1];refine⟨Alk.drop (h.alk.at s.block (s.pc+1) t.block t.pc ((k+1:Nat):Int) t.steps) hn2 d1 d2,h.blk.trans q1.symm,?_,q3,h.ts,ZO,?_,fun ha=>by rw[ha x]at hkx;cases hkx⟩
     · rw[q1,q2]
       show t.pc=(((F.blk s.block).insts.take (s.pc+1)).filter ki).length;rw[hcnt,h.pc];rfl
     · rw[q2]
       show k+1≤_+(s.pc+1);omega
   · right
     rw[hkx,if_pos rfl]at hcnt;have hfa:=Yiq hg hkx;have h2:t.pc<((ShF kp ki ch F).blk t.block).insts.length:=by
      rw[hbl];show t.pc<((((F.blk s.block).insts.filter ki)).map ch).length;rw[List.length_map,h.pc];exact(List.getElem?_eq_some_iff.1 hfa).1
     have hix:((ShF kp ki ch F).blk t.block).inst t.pc=ch x:=by
      rw[hbl];show((((F.blk s.block).insts.filter ki)).map ch).getD t.pc default=ch x;rw[List.getD_eq_getElem?_getD,List.getElem?_map,h.pc,hfa];rfl
     obtain⟨c1,c2,c3⟩:=hok.tc x;have e2:=YcI h2;rw[wj,hix,Yca,c1,ho]at e2;obtain⟨r1,r2,r3⟩:=YeZ n { t with steps:=((j+1:Nat):Int),pc:=t.pc+1 } (ch x);rw[e1,e2];refine⟨Alk.inst (h.alk.at s.block (s.pc+1) t.block (t.pc+1) ((k+1:Nat):Int) ((j+1:Nat):Int)) hn2 hn hx c2 c3 (fun _ hd=>(hok.num x hd).symm) (fun hc=>hok.nI _ hbm x hm (by rw[ho];exact hc)),r1.trans (h.blk.trans q1.symm),?_,q3,r3,ZO,?_,fun ha=>by rw[hal ha]⟩
     · rw[q1,q2,r2]
       show t.pc+1=(((F.blk s.block).insts.take (s.pc+1)).filter ki).length;rw[hcnt,h.pc]
     · rw[q2]
       show k+1≤_+(s.pc+1);rw[Nat.add_mul];omega
 · right
   have hpc:s.pc=(F.blk s.block).insts.length:=by have:=hI.pc;omega
   have h2:¬t.pc<((ShF kp ki ch F).blk t.block).insts.length:=by
    rw[hbl];show ¬t.pc<((((F.blk s.block).insts.filter ki)).map ch).length;rw[List.length_map,h.pc,hpc,List.take_length];exact Nat.lt_irrefl _
   have htm:((ShF kp ki ch F).blk t.block).term=(F.blk s.block).term:=by rw[hbl];rfl
   have hb2:∀x:Nat,k+1≤(j+1)*(1+Yo F.blocks)+x:=fun x=>by
    rw[Nat.add_mul];omega
   rcases Yds hT hI with⟨h3,-⟩|⟨c,hc,hn,h3⟩
   · have hk2:=h3.resolve_left h1
     have hv:=h.alk.int (hok.nT _ hbm (by rw[hk2];decide));have e1:Yx F s=({ s with steps:=((k+1:Nat):Int),value:=s.int (F.blk s.block).term.var }:RSt).endW 0:=by
      unfold Yx;dsimp only;rw[if_neg h1,if_pos hk2,wk];rfl
     have e2:Yx (ShF kp ki ch F) t=({ t with steps:=((j+1:Nat):Int),value:=t.int (F.blk s.block).term.var }:RSt).endW 0:=by
      unfold Yx;dsimp only;rw[if_neg h2,htm,if_pos hk2,wj];rfl
     rw[e1,e2];have a:=h.alk;exact⟨⟨a.li,a.lb,a.la,a.ints,a.boos,a.arrs,a.rows,rfl,hv,a.trap,a.trace,a.checks,rfl⟩,h.blk,h.pc,rfl,rfl,ZO,hb2 _,fun ha=>by rw[hal ha]⟩
   · have hkn:(F.blk s.block).term.kind≠2:=fun e=>by
      unfold Yby at hn;rw[if_pos (.inr e)]at hn;omega
     have hbo:(F.blk s.block).term.kind≠0→t.boo (F.blk s.block).term.var=s.boo (F.blk s.block).term.var:=fun e=>(h.alk.boo (hok.nT _ hbm e)).symm
     have e2:Yx (ShF kp ki ch F) t=YM (ShF kp ki ch F) c { t with steps:=((j+1:Nat):Int) }:=by
      unfold Yby at hn;rw[if_neg (fun e=>e.elim h1 hkn)]at hn;unfold Yx;dsimp only;rw[if_neg h2,htm,if_neg hkn,wj]
      by_cases h0:(F.blk s.block).term.kind=0
      · rw[if_pos (.inl h0)]at hn
        rw[if_pos (.inl h0),hn,Int.toNat_natCast]
      · have hb0:=hbo h0
        by_cases hq:s.boo (F.blk s.block).term.var=true
        · rw[if_pos (.inr hq)]at hn
          rw[if_pos (.inr (hb0.trans hq)),hn,Int.toNat_natCast]
        · rw[if_neg (fun e=>e.elim h0 hq)]at hn
          rw[if_neg (fun e=>e.elim h0 fun e=>hq (hb0.symm.trans e)),hn,Int.toNat_natCast]
     rw[wk]at h3;have hI2:RInv F { s with steps:=((k+1:Nat):Int) }:=⟨hI.li,hI.lb,hI.la,hI.blk,hI.pc,hI.arrs,hI.ints,hI.rows,hI.ll,hI.lr,hI.lt,hI.lc⟩;obtain⟨a,b1,b2,p1,p2,s1,s2⟩:=Sim.enter (t:={ t with steps:=((j+1:Nat):Int) }) hok hT hJ hI2 (h.alk.at _ _ _ _ _ _) h.blk hc;rw[h3,e2];refine⟨a,b2.trans b1.symm,?_,s1,s2,ZO,hb2 _,fun ha=>by rw[hal ha]⟩;rw[p1,p2];rfl
theorem Ygq(hok:Yeh l F kp ki ch)(hT:Yd F=true)(hJ:Y1 F=true)(hN:Ybf F)(hI:RInv F s0)(h0:Sim F l ki s0 s0 0 0):∀K:Nat,K<4611686018427387904→
 ∃k j,k≤K∧Sim F l ki (Yf F K s0) (Yf (ShF kp ki ch F) j s0) k j∧RInv F (Yf F K s0)∧((Yf F K s0).ended=false→k=K)
 |0,_=>⟨0,0,Nr _,h0,hI,fun _=>rfl⟩
 |K+1,hK=>by
  obtain⟨k,j,h1,h2,h3,h4⟩:=Ygq hok hT hJ hN hI h0 K ZO;cases he:(Yf F K s0).ended
  · rw[Yiu he]
    have hkK:=h4 he;have hte:(Yf (ShF kp ki ch F) j s0).ended=false:=by rw[← h2.alk.ended];exact he
    rcases h2.step hok hT hJ h3 ZO with h|h
    · exact⟨k+1,j,ZO,h,h3.step hT hN,fun _=>ZO⟩
    · rw[← Yiu hte]at h
      exact⟨k+1,j+1,ZO,h,h3.step hT hN,fun _=>ZO⟩
  · rw[Yei he (Nat.le_succ K)]
    exact⟨k,j,ZO,h2,h3,fun e=>by rw[he]at e;cases e⟩
structure Ycp (s t:RSt):Prop where
 ending:s.ending=t.ending
 value:s.value=t.value
 trap:s.trap=t.trap
 trace:s.trace=t.trace
 checks:s.checks=t.checks
theorem Alk.out(h:Alk l s t):Ycp s t:=⟨h.ending,h.value,h.trap,h.trace,h.checks⟩
section
variable (hok:Yeh l F kp ki ch) (hT:Yd F=true) (hJ:Y1 F=true) (hN:Ybf F) (hI:RInv F s0) (h0:Sim F l ki s0 s0 0 0) (ho:YbW s0)
include hok hT hJ hN hI h0 ho
theorem Ynw{K M:Nat}(hK:K<4611686018427387904)(hM:K≤M)(he:(Yf F K s0).ending≠3):Ycp (Yf F K s0) (Yf (ShF kp ki ch F) M s0)∧(Yf (ShF kp ki ch F) M s0).steps≤(Yf F K s0).steps:=by
 obtain⟨k,j,h1,h2,-,-⟩:=Ygq hok hT hJ hN hI h0 K hK;have hend:(Yf F K s0).ended=true:=by
  cases e:(Yf F K s0).ended
  · exact absurd (Ygo F K s0 ho e) he
  · rfl
 have hte:=h2.alk.ended;rw[hend]at hte;have hle:=h2.le;rw[Yei hte.symm (show j≤M from ZO),h2.ss,h2.ts];exact⟨h2.alk.out,ZO⟩
theorem Ynx{n M:Nat}(hM:M=(1+Yo F.blocks)*(n+1))(hB:M<4611686018427387904)(he:(Yf (ShF kp ki ch F) n s0).ending≠3):Ycp (Yf F M s0) (Yf (ShF kp ki ch F) n s0):=by
 obtain⟨k,j,h1,h2,hI2,h4⟩:=Ygq hok hT hJ hN hI h0 M hB;have hend:(Yf (ShF kp ki ch F) n s0).ended=true:=by
  cases e:(Yf (ShF kp ki ch F) n s0).ended
  · exact absurd (Ygo _ n s0 ho e) he
  · rfl
 have hte:=h2.alk.ended;have hbd:=h2.bd;have hpc:=Nat.le_trans hI2.pc (Ygn (YK hI2.blk));cases e:(Yf F M s0).ended
 · have hk:=h4 e
   rw[e]at hte;have hj:n<j:=by
    refine Nat.lt_of_not_le fun hj=>?_
    have:=Nat.mul_le_mul_right (1+Yo F.blocks) hj;have hM2:M=n*(1+Yo F.blocks)+(1+Yo F.blocks):=by rw[hM,Nat.mul_succ,Nat.mul_comm]
    omega
   have:=Yei hend (Nat.le_of_lt hj);rw[this,hend]at hte;cases hte
 · rw[e]at hte
   have hs:Yf (ShF kp ki ch F) j s0=Yf (ShF kp ki ch F) n s0:=by
    rcases Nat.le_total j n with hj|hj
    · exact(Yei hte.symm hj).symm
    · exact Yei hend hj
   rw[← hs];exact h2.alk.out
end
end
end Go.Proofs.YthhjlbflpjhahaaGreatDoor
