/- The plain law of DeadNone: what is needed of the swept program is what was needed, so that it is swept itself. -/
import Derived.Test.YtkfobmdodegigaaGreatDoorDmD
import Derived.Test.YtkfobmdodegigaaGreatDoorDmP
import Derived.Test.YtkfobmdodegigaaGreatDoorFewQ
import Derived.Test.YtkfobmdodegigaaGreatDoorDmA
namespace Go.Proofs.YtkfobmdodegigaaGreatDoor
open Go.RowKit
set_option maxRecDepth 100000
section
variable {F:PFunc} {v:Int}
theorem sw_mem{l:List Bool}{b:PBlock}:b∈(SwF l F).blocks↔∃a∈F.blocks,swBlk l a=b:=List.mem_map
end
section
variable {F:PFunc} {l:List Bool}
theorem sw_len:(SwF l F).blocks.length=F.blocks.length:=by simp[SwF]
theorem sw_bnames:bnames (SwF l F)=bnames F:=by
 unfold bnames SwF;simp only[List.map_map];rfl
theorem sw_names:namesB (SwF l F)=namesB F:=by
 unfold namesB;rw[sw_bnames,sw_len];rfl
theorem sw_phiB:phiB (SwF l F)=phiB F:=by
 funext p;unfold phiB atsB;rw[sw_len];rfl
theorem sw_instB:instB (SwF l F)=instB F:=rfl
theorem sw_termB:termB (SwF l F)=termB F:=by
 funext t;unfold termB;rw[sw_len];rfl
theorem sw_block{b:PBlock}(h:blockB F b=true):blockB (SwF l F) (swBlk l b)=true:=by
 unfold blockB at *;rw[sw_phiB,sw_instB,sw_termB];simp only[Bool.and_eq_true,Bool.not_eq_true',List.any_eq_false]at h ⊢;exact⟨⟨fun x hx=>h.1.1 x (List.mem_filter.1 hx).1,fun x hx=>h.1.2 x (List.mem_filter.1 hx).1⟩,h.2⟩
theorem sw_sum:∀{bs:List PBlock},sumB (bs.map (swBlk l))≤sumB bs
 |[]=>Nr _
 |b::r=>by
  have ih:=sw_sum (bs:=r);have h1:=List.length_filter_le (keepP l) b.phis;have h2:=List.length_filter_le (keepI l) b.insts;simp only[List.map_cons,sumB,swBlk]at *;omega
theorem sw_shaped(h:shapedP F=true):shapedP (SwF l F)=true:=by
 unfold shapedP at *;simp only[Bool.and_eq_true,decide_eq_true_eq,List.all_eq_true]at h ⊢;refine⟨⟨by rw[sw_names];exact h.1.1,fun b hb=>?_⟩,Nat.le_trans sw_sum h.2⟩;obtain⟨a,ha,rfl⟩:=sw_mem.1 hb;exact sw_block (h.1.2 a ha)
theorem sw_takes:∀{a b:List Int},takesT (SwF l F) a b=takesT F a b
 |[],_=>by simp[takesT]
 |_::_,[]=>by simp[takesT]
 |x::a,t::b=>by
  have ih:=sw_takes (a:=a) (b:=b);simp only[takesT,ih];rfl
theorem sw_instT:instT (SwF l F)=instT F:=by
 funext x;unfold instT;rw[sw_takes];rfl
theorem sw_typed(h:typedP F=true):typedP (SwF l F)=true:=by
 unfold typedP at *;simp only[Bool.and_eq_true,List.all_eq_true]at h ⊢;refine⟨sw_shaped h.1,fun b hb=>?_⟩;obtain⟨a,ha,rfl⟩:=sw_mem.1 hb;have:=h.2 a ha;unfold blkT at *;simp only[Bool.and_eq_true,List.all_eq_true]at this ⊢;rw[sw_instT];exact⟨⟨fun x hx=>this.1.1 x (List.mem_filter.1 hx).1,fun x hx=>this.1.2 x (List.mem_filter.1 hx).1⟩,this.2⟩
end
section
variable {F:PFunc} {l:List Bool}
theorem phisLen_filter{p:PPhi→Bool}:∀{a:List PPhi},phisLen (a.filter p)≤phisLen a
 |[]=>Nr _
 |x::a=>by
  have ih:=phisLen_filter (p:=p) (a:=a);rw[List.filter_cons];split
  · simp only[phisLen];omega
  · simp only[phisLen];omega
theorem instsLen_filter{p:PInst→Bool}:∀{a:List PInst},instsLen (a.filter p)≤instsLen a
 |[]=>Nr _
 |x::a=>by
  have ih:=instsLen_filter (p:=p) (a:=a);rw[List.filter_cons];split
  · simp only[instsLen];omega
  · simp only[instsLen];omega
theorem phisFew_filter{p:PPhi→Bool}:∀{a:List PPhi} {m m':Nat},m'≤m→phisFew m a=true→phisFew m' (a.filter p)=true
 |[],_,_,_,_=>rfl
 |x::a,m,m',hm,h=>by
  simp only[phisFew,Bool.and_eq_true,decide_eq_true_eq]at h;rw[List.filter_cons];split
  · simp only[phisFew,Bool.and_eq_true,decide_eq_true_eq]
    exact⟨⟨⟨ZO,h.1.1.2⟩,h.1.2⟩,phisFew_filter ZO h.2⟩
  · exact phisFew_filter ZO h.2
theorem instsFew_filter{p:PInst→Bool}:∀{a:List PInst} {m m':Nat},m'≤m→instsFew m a=true→instsFew m' (a.filter p)=true
 |[],_,_,_,_=>rfl
 |x::a,m,m',hm,h=>by
  simp only[instsFew,Bool.and_eq_true,decide_eq_true_eq]at h;rw[List.filter_cons];split
  · simp only[instsFew,Bool.and_eq_true,decide_eq_true_eq]
    exact⟨⟨ZO,h.1.2⟩,instsFew_filter ZO h.2⟩
  · exact instsFew_filter ZO h.2
theorem head_sw{b:PBlock}:blkHead (swBlk l b)≤blkHead b:=by
 have h1:=List.length_filter_le (keepP l) b.phis;have h2:=List.length_filter_le (keepI l) b.insts;simp only[blkHead,swBlk];omega
theorem sw_blkFew{b:PBlock}{m m':Nat}(hm:m'≤m)(h:blkFew m b=true):blkFew m' (swBlk l b)=true:=by
 have h1:=List.length_filter_le (keepP l) b.phis;have h2:=List.length_filter_le (keepI l) b.insts;have h3:=head_sw (l:=l) (b:=b);have h4:=phisLen_filter (p:=keepP l) (a:=b.phis);have h5:=instsLen_filter (p:=keepI l) (a:=b.insts);simp only[blkFew,Bool.and_eq_true,decide_eq_true_eq]at h ⊢;refine⟨⟨⟨⟨⟨h.1.1.1.1.1,?_⟩,?_⟩,phisFew_filter ZO h.1.1.2⟩,instsFew_filter ?_ h.1.2⟩,?_⟩
 · exact Nat.le_trans h1 h.1.1.1.1.2
 · exact Nat.le_trans h2 h.1.1.1.2
 · show m'+blkHead (swBlk l b)+phisLen (b.phis.filter (keepP l))≤_
   omega
 · show m'+blkHead (swBlk l b)+phisLen (b.phis.filter (keepP l))+instsLen (b.insts.filter (keepI l))≤_
   have:=h.2;omega
theorem sw_blksFew:∀{bs:List PBlock} {m m':Nat},m'≤m→blksFew m bs=true→blksFew m' (bs.map (swBlk l))=true
 |[],_,_,_,_=>rfl
 |b::r,m,m',hm,h=>by
  have h3:=head_sw (l:=l) (b:=b);have h4:=phisLen_filter (p:=keepP l) (a:=b.phis);have h5:=instsLen_filter (p:=keepI l) (a:=b.insts);simp only[blksFew,Bool.and_eq_true]at h;rw[List.map_cons];simp only[blksFew,Bool.and_eq_true];refine⟨sw_blkFew hm h.1,sw_blksFew ?_ h.2⟩;show m'+blkHead (swBlk l b)+phisLen (b.phis.filter (keepP l))+instsLen (b.insts.filter (keepI l))≤_;omega
theorem sw_few(h:fewB F=true):fewB (SwF l F)=true:=by
 unfold fewB at *;rw[sw_len];simp only[Bool.and_eq_true]at h ⊢;exact⟨h.1,sw_blksFew (Nr _) h.2⟩
end
def askPhi(l:List Bool)(v:Int)(p:PPhi):Bool:=decide (v∈p.args)&&keepP l p
def askIns(l:List Bool)(v:Int)(x:PInst):Bool:=decide (v∈x.args)&&keepI l x
def askTrm(v:Int)(t:PTerm):Bool:=decide (t.kind≠0)&&decide (t.var=v)
def askBlk(l:List Bool)(v:Int)(b:PBlock):Bool:=b.phis.any (askPhi l v)||b.insts.any (askIns l v)||askTrm v b.term
def askF(l:List Bool)(v:Int)(F:PFunc):Bool:=F.blocks.any (askBlk l v)
section
variable {F:PFunc} {l:List Bool} {v:Int}
theorem ask_whole(hr:RngF F)(hc:∀u:Nat,u<F.vars.length→l.getD u false=true∨askF l (u:Int) F=false)(h:Nd F v):l.getD v.toNat false=true:=by
 have key:∀v:Int,0≤v→v<F.vars.length→askF l v F=true→l.getD v.toNat false=true:=fun v h0 h1 ha=>by
  rcases hc v.toNat ZO with h|h
  · exact h
  · rw[Int.toNat_of_nonneg h0,ha]at h
    cases h
 induction h with
 |@inst b x v hb hx hs hv=>
  have:=hr.ins b hb x hx v hv
  exact key v this.1 this.2 (List.any_eq_true.2 ⟨b,hb,by
   unfold askBlk;rw[Bool.or_eq_true,Bool.or_eq_true]
   exact .inl (.inr (List.any_eq_true.2 ⟨x,hx,by simp[askIns,keepI,hs,hv]⟩))⟩)
 |@term b hb hk=>
  have:=hr.trm b hb hk
  exact key _ this.1 this.2 (List.any_eq_true.2 ⟨b,hb,by
   unfold askBlk;rw[Bool.or_eq_true]
   exact .inr (by simp[askTrm,hk])⟩)
 |@phi b p v hb hp hd hv ih=>
  have:=(hr.it (phiIt p) (List.mem_flatMap.2 ⟨b,hb,List.mem_append_left _ (List.mem_map.2 ⟨p,hp,rfl⟩)⟩)).2 v hv
  exact key v this.1 this.2 (List.any_eq_true.2 ⟨b,hb,by
   unfold askBlk;rw[Bool.or_eq_true,Bool.or_eq_true]
   exact .inl (.inl (List.any_eq_true.2 ⟨p,hp,by simp only[askPhi,keepP,ih,Bool.and_true,decide_eq_true_eq];exact hv⟩))⟩)
 |@arg b x v hb hx hs hd hv ih=>
  have:=hr.ins b hb x hx v hv
  exact key v this.1 this.2 (List.any_eq_true.2 ⟨b,hb,by
   unfold askBlk;rw[Bool.or_eq_true,Bool.or_eq_true]
   exact .inl (.inr (List.any_eq_true.2 ⟨x,hx,by simp only[askIns,keepI,ih,Bool.or_true,Bool.and_true,decide_eq_true_eq];exact hv⟩))⟩)
theorem ndL_of(hlen:l.length=F.vars.length)(h1:∀u:Nat,l.getD u false=true→Nd F u)(h2:∀u:Nat,Nd F u→l.getD u false=true):l=ndL F:=by
 refine List.ext_getElem (by rw[hlen];simp[ndL]) fun i hi1 hi2=>?_
 have hgi:l[i]=l.getD i false:=by simp[List.getD,hi1]
 have hri:(ndL F)[i]=ndB F i:=by simp[ndL]
 rw[hgi,hri,Bool.eq_iff_iff];have hnb:ndB F i=true↔Nd F (i:Int):=by unfold ndB;simp
 rw[hnb];exact⟨h1 i,h2 i⟩
end
def BoolC(w:World)(gi n:Nat)(l:List Bool):Prop:=gi<w.heap.size∧∀f,f<n→w.cell? ⟨gi,f,none⟩=some (.bool (l.getD f false))
theorem BoolC.below{w w':World}{gi n:Nat}{l:List Bool}(h:BoolC w gi n l)(hb:Below w.heap.size w w'):BoolC w' gi n l:=
 ⟨Nt h.1 hb.size,fun f hf=>(hb.cell (p:=⟨gi,f,none⟩) h.1).trans (h.2 f hf)⟩
def fnD:PFunc:=⟨[⟨⟨#[110]⟩,0⟩,⟨⟨#[109]⟩,0⟩,⟨⟨#[107]⟩,0⟩],[0],[⟨⟨#[97]⟩,[],[⟨2,1,[0,0],0⟩,⟨5,2,[0,0],0⟩],⟨2,0,0,0⟩⟩]⟩
def fnD2:PFunc:=⟨[⟨⟨#[110]⟩,0⟩,⟨⟨#[109]⟩,0⟩,⟨⟨#[107]⟩,0⟩],[0],[⟨⟨#[97]⟩,[],[⟨5,2,[0,0],0⟩],⟨2,0,0,0⟩⟩]⟩
theorem fnD_few:fewB fnD=true:=by decide +kernel
theorem fnD_typed:typedP fnD=true:=by decide +kernel
theorem fnD_be(T:Nat→Nat→Bool):behindB fnD T 0=true:=by rfl
theorem fnD_right:rightS fnD=true:=by
 rw[rightS,single_yes (by decide +kernel) (by decide +kernel) (by decide +kernel) (fun i hi=>by
  have:i<1:=hi;obtain rfl:i=0:=by omega
  exact fnD_be _),fnD_typed]
 rfl
theorem fnD_nd:ndL fnD=[true,false,false]:=by
 refine(ndL_of (F:=fnD) (l:=[true,false,false]) rfl (fun u hu=>?_) (fun u hu=>?_)).symm
 · match u,hu with
   |0,_=>exact .term (b:=⟨⟨#[97]⟩,[],[⟨2,1,[0,0],0⟩,⟨5,2,[0,0],0⟩],⟨2,0,0,0⟩⟩) (by simp[fnD]) ZD
   |1,h=>cases h
   |2,h=>cases h
   |u+3,h=>cases h
 · have:=ask_whole (l:=[true,false,false]) (rngF_of fnD_typed) (fun u hu=>by
    have:u<3:=hu
    match u,this with
    |0,_=>exact .inl rfl
    |1,_=>exact .inr ZD
    |2,_=>exact .inr ZD) hu
   simpa using this
theorem fnD_sw:SwF (ndL fnD) fnD=fnD2:=by rw[fnD_nd];rfl
theorem box6{w V:World}{b0 b1 b2 b3 b4 b5:Array Value}{t0 t1 t2 t3 t4 t5:TypeId}(hV:V=((((((w.alloc (.cells b0 t0)).alloc (.cells b1 t1)).alloc (.cells b2 t2)).alloc (.cells b3 t3)).alloc (.cells b4 t4)).alloc (.cells b5 t5))) :
 BoxAt V (w.heap.size) b0 t0∧BoxAt V (w.heap.size+1) b1 t1∧BoxAt V (w.heap.size+1+1) b2 t2∧BoxAt V (w.heap.size+1+1+1) b3 t3∧BoxAt V (w.heap.size+1+1+1+1) b4 t4∧BoxAt V (w.heap.size+1+1+1+1+1) b5 t5:=by
 subst hV;have h0:=BoxAt.new w b0 t0;have h1:=BoxAt.new (w.alloc (.cells b0 t0)) b1 t1;replace h0:=h0.alloc (.cells b1 t1);have h2:=BoxAt.new ((w.alloc (.cells b0 t0)).alloc (.cells b1 t1)) b2 t2;replace h0:=h0.alloc (.cells b2 t2);replace h1:=h1.alloc (.cells b2 t2);have h3:=BoxAt.new (((w.alloc (.cells b0 t0)).alloc (.cells b1 t1)).alloc (.cells b2 t2)) b3 t3;replace h0:=h0.alloc (.cells b3 t3);replace h1:=h1.alloc (.cells b3 t3);replace h2:=h2.alloc (.cells b3 t3);have h4:=BoxAt.new ((((w.alloc (.cells b0 t0)).alloc (.cells b1 t1)).alloc (.cells b2 t2)).alloc (.cells b3 t3)) b4 t4;replace h0:=h0.alloc (.cells b4 t4);replace h1:=h1.alloc (.cells b4 t4);replace h2:=h2.alloc (.cells b4 t4);replace h3:=h3.alloc (.cells b4 t4);have h5:=BoxAt.new (((((w.alloc (.cells b0 t0)).alloc (.cells b1 t1)).alloc (.cells b2 t2)).alloc (.cells b3 t3)).alloc (.cells b4 t4)) b5 t5;replace h0:=h0.alloc (.cells b5 t5);replace h1:=h1.alloc (.cells b5 t5);replace h2:=h2.alloc (.cells b5 t5);replace h3:=h3.alloc (.cells b5 t5);replace h4:=h4.alloc (.cells b5 t5);simp only[World.size_alloc]at h1 h2 h3 h4 h5;exact⟨h0,h1,h2,h3,h4,h5⟩
theorem fnD_at{w:World}{b:Nat}(hl:b+5<w.heap.size)(c0:∀j,w.cell? ⟨b,j,none⟩=(#[.string ⟨#[110]⟩,.int .i64 0,.string ⟨#[109]⟩,.int .i64 0,.string ⟨#[107]⟩,.int .i64 0]:Array Value)[j]?)(c1:∀j,w.cell? ⟨b+1,j,none⟩=(#[.int .i64 0]:Array Value)[j]?)(c2:∀j,w.cell? ⟨b+2,j,none⟩=(#[.int .i64 0,.int .i64 0]:Array Value)[j]?)
 (c3:∀j,w.cell? ⟨b+3,j,none⟩=(#[.int .i64 0,.int .i64 0]:Array Value)[j]?) (c4:∀j,w.cell? ⟨b+4,j,none⟩=(#[.int .i64 2,.int .i64 1,.slice (some ⟨b+2,0,none⟩) 2 2,.int .i64 0,.int .i64 5,.int .i64 2,.slice (some ⟨b+3,0,none⟩) 2 2,.int .i64 0]:Array Value)[j]?)
 (c5:∀j,w.cell? ⟨b+5,j,none⟩=(#[.string ⟨#[97]⟩,.slice none 0 0,.slice (some ⟨b+4,0,none⟩) 2 2,.int .i64 2,.int .i64 0,.int .i64 0,.int .i64 0]:Array Value)[j]?) :
 FnV w w.heap.size (.agg #[.slice (some ⟨b,0,none⟩) 3 3,.slice (some ⟨b+1,0,none⟩) 1 1,.slice (some ⟨b+5,0,none⟩) 1 1]) fnD:=by
 refine⟨_,_,_,rfl,⟨_,_,rfl,by simp[Len,fnD],ZD,fun i x hx=>?_⟩,⟨_,_,rfl,by simp[Len,fnD],ZD,fun i x hx=>?_⟩,⟨_,_,rfl,by simp[Len,fnD],ZD,fun i x hx=>?_⟩⟩
 · refine⟨b,0,rfl,ZO,?_⟩
   match i,hx with
   |0,hx=>cases hx;exact⟨ZD,c0 0,c0 1⟩
   |1,hx=>cases hx;exact⟨ZD,c0 2,c0 3⟩
   |2,hx=>cases hx;exact⟨ZD,c0 4,c0 5⟩
 · refine⟨b+1,0,rfl,ZO,?_⟩
   match i,hx with
   |0,hx=>cases hx;exact c1 0
 · refine⟨b+5,0,rfl,ZO,?_⟩
   match i,hx with
   |0,hx=>
    cases hx;refine⟨ZD,c5 0,⟨_,c5 1,sl_nil⟩,⟨_,c5 2,_,_,rfl,by simp[Len],ZD,fun i x hx=>⟨b+4,0,rfl,ZO,?_⟩⟩,c5 3,c5 4,c5 5,c5 6⟩
    match i,hx with
    |0,hx=>
     cases hx;refine⟨c4 0,c4 1,⟨_,c4 2,_,_,rfl,by simp[Len],ZD,fun i x hx=>⟨b+2,0,rfl,ZO,?_⟩⟩,c4 3⟩
     match i,hx with
     |0,hx=>cases hx;exact c2 0
     |1,hx=>cases hx;exact c2 1
    |1,hx=>
     cases hx;refine⟨c4 4,c4 5,⟨_,c4 6,_,_,rfl,by simp[Len],ZD,fun i x hx=>⟨b+3,0,rfl,ZO,?_⟩⟩,c4 7⟩
     match i,hx with
     |0,hx=>cases hx;exact c3 0
     |1,hx=>cases hx;exact c3 1
set_option maxHeartbeats 4000000 in
theorem livesX_calls{W w:World}(hU:Uni W)(hW:Below W.heap.size W w) :
 Calls Tryz.prog 8 #[] w fun e w'=>e=.returned (.bool true)∧Below w.heap.size w w':=by
 obtain⟨V,hV⟩:∃V:World,V=(((((w.alloc (.cells #[.string ⟨#[110]⟩,.int .i64 0,.string ⟨#[109]⟩,.int .i64 0,.string ⟨#[107]⟩,.int .i64 0] 70)).alloc (.cells #[.int .i64 0] 3)).alloc (.cells #[.int .i64 0,.int .i64 0] 3)).alloc (.cells #[.int .i64 0,.int .i64 0] 3)).alloc (.cells #[.int .i64 2,.int .i64 1,.slice (some ⟨w.heap.size+1+1,0,none⟩) 2 2,.int .i64 0,.int .i64 5,.int .i64 2,.slice (some ⟨w.heap.size+1+1+1,0,none⟩) 2 2,.int .i64 0] 49)).alloc (.cells #[.string ⟨#[97]⟩,.slice none 0 0,.slice (some ⟨w.heap.size+1+1+1+1,0,none⟩) 2 2,.int .i64 2,.int .i64 0,.int .i64 0,.int .i64 0] 46):=⟨_,rfl⟩;have hb0:Below w.heap.size w V:=by subst hV;(focus repeat(first|assumption|exact Br _ _|refine Below.drew ?_|refine Below.alloc ?_ (by first|omega|exact Below.size ZA|(simp;done)|(simp;omega)) _|(refine Below.trans ?_ (Below.mono ZA ?_);rotate_left;exact(by first|omega|exact Below.size ZA|(simp;done)|(simp;omega)))))
 have hU9:=(hU.below hW).below hb0;have hs9:V.heap.size=w.heap.size+6:=by subst hV;simp
 obtain⟨x0,x1,x2,x3,x4,x5⟩:=box6 hV;have hF1:FnV V V.heap.size (.agg #[.slice (some ⟨w.heap.size,0,none⟩) 3 3,.slice (some ⟨w.heap.size+1,0,none⟩) 1 1,.slice (some ⟨w.heap.size+1+1+1+1+1,0,none⟩) 1 1]) fnD:=
  fnD_at (b:=w.heap.size) ZO x0.cell x1.cell x2.cell x3.cell x4.cell x5.cell
 have h1:=sweep_calls hU9 hF1 (BL_alloc V (.cells #[.slice (some ⟨w.heap.size,0,none⟩) 3 3,.slice (some ⟨w.heap.size+1,0,none⟩) 1 1,.slice (some ⟨w.heap.size+1+1+1+1+1,0,none⟩) 1 1] 26)) (few_small fnD_few) (few_bnd fnD_few);unfold RetSw at h1;rw[fnD_right,fnD_sw]at h1;have HB0:=Lh hb0;have HVF:=Lh (BL_alloc V (.cells #[.slice (some ⟨w.heap.size,0,none⟩) 3 3,.slice (some ⟨w.heap.size+1,0,none⟩) 1 1,.slice (some ⟨w.heap.size+1+1+1+1+1,0,none⟩) 1 1] 26));have h9:w.heap.size≤V.heap.size:=by omega
 clear x0 x1 x2 x3 x4 x5 hF1 hU9 hU hW hs9 hb0;go_enter Tryz.func8,Tryz.ntmps8;go_wp2_with fail;rw[← hV];clear hV;refine h1.mono ?_;rintro e w5 ⟨⟨h,-⟩|⟨-,v,rfl,hG⟩,hb5⟩
 · cases h
 obtain⟨A0,c0,A1,c1,A2,c2,rfl,-,-,-,-,-,-,-,-,r2⟩:=hG.open_;obtain⟨bb,off,A3,c3,A4,c4,rfl,hbb,-,-,hy1,hy2,-,-,-,-,-,-,-,-,-,r4⟩:=r2.blk (Br _ _) (i:=0) ZD;obtain⟨bi,oi,A5,c5,rfl,hbi,hx0,-⟩:=r4.inst (Br _ _) (i:=0) ZD;replace hy2:w5.cell? ⟨bb,off+2,none⟩=some (.slice (some ⟨bi,oi,none⟩) 1 c4):=by
  rw[show(fnD2.blk 0).insts.length=1 from rfl]at hy2;simpa using hy2
 replace hx0:w5.cell? ⟨bi,oi,none⟩=some (.int .i64 5):=by
  rw[show((fnD2.blk 0).inst 0).op=5 from rfl]at hx0;simpa using hx0
 have HB5:=Lh (HB0.out.trans ((HVF.out.trans (hb5.mono HVF.out.size)).mono h9));have e0:fnD2.vars.length=3:=rfl;have e1:fnD2.params.length=1:=rfl;have e2:fnD2.blocks.length=1:=rfl;rw[e0,e1,e2];clear e0 e1 e2 hy1 hb5 hG r2 r4 h1;go_wp2;go_ret;exact⟨rfl,BL⟩
end Go.Proofs.YtkfobmdodegigaaGreatDoor
