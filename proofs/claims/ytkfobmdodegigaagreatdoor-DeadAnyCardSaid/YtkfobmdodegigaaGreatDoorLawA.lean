/- A program in memory whose rows of phis and instructions are new, and whose smallest rows are the given program's. -/
import Derived.Test.YtkfobmdodegigaaGreatDoorMem
import Derived.Test.YtkfobmdodegigaaGreatDoorDeadRP
import Derived.Test.YtkfobmdodegigaaGreatDoorDmX
import Derived.Test.YtkfobmdodegigaaGreatDoorKpQ
import Derived.Test.YtkfobmdodegigaaGreatDoorSLawQ
import Derived.Test.YtkfobmdodegigaaGreatDoorUniQ
namespace Go.Proofs.YtkfobmdodegigaaGreatDoor
open Go.RowKit
set_option maxRecDepth 100000
def CPhW(W:World)(cs:List Value)(x:PPhi):Prop:=∃v1 v2,cs=[.int .i64 x.dst,v1,v2]∧SInts W W.heap.size v1 x.args∧SInts W W.heap.size v2 x.froms
def CInW(W:World)(cs:List Value)(x:PInst):Prop:=∃v1,cs=[.int .i64 x.op,.int .i64 x.dst,v1,.int .i64 x.num]∧SInts W W.heap.size v1 x.args
def CBW(W w:World)(base:Nat)(cs:List Value)(x:PBlock×Value×Value):Prop:=
 cs=[.string x.1.name,x.2.1,x.2.2,.int .i64 x.1.term.kind,.int .i64 x.1.term.var,.int .i64 x.1.term.t0,.int .i64 x.1.term.t1]∧x.1.name.size≤maxLen∧
  RRow w base 81 3 (CPhW W) x.2.1 x.1.phis∧RRow w base 49 4 (CInW W) x.2.2 x.1.insts
theorem CBW.kt{W w w':World}{base:Nat}{ts:List TypeId}(hk:KT ts w w')(hp:81∈ts)(hi:49∈ts){cs:List Value}{x:PBlock×Value×Value}(h:CBW W w base cs x):CBW W w' base cs x:=
 ⟨h.1,h.2.1,h.2.2.1.kt hk hp (fun _ _ h=>h),h.2.2.2.kt hk hi (fun _ _ h=>h)⟩
section
variable {W w:World} {base:Nat} {v:Value}
theorem phisW_of{xs:List PPhi}(hk:Kept W.heap.size W w)(hs:W.heap.size≤w.heap.size)(h:RRow w base 81 3 (CPhW W) v xs)(hn:xs.length≤1048576):SPhis w w.heap.size v xs:=
 DRow.rd (h.done (D:=fun _=>True) hn (fun _ _ _=>trivial)) (fun _ h _=>h) fun b o cs x _ _ hc e=>by
  obtain⟨v1,v2,rfl,h1,h2⟩:=e;exact⟨hc 0 _ rfl,⟨v1,hc 1 _ rfl,h1.keep hk hs⟩,v2,hc 2 _ rfl,h2.keep hk hs⟩
theorem instsW_of{xs:List PInst}(hk:Kept W.heap.size W w)(hs:W.heap.size≤w.heap.size)(h:RRow w base 49 4 (CInW W) v xs)(hn:xs.length≤1048576):SInsts w w.heap.size v xs:=
 DRow.rd (h.done (D:=fun _=>True) hn (fun _ _ _=>trivial)) (fun _ h _=>h) fun b o cs x _ _ hc e=>by
  obtain⟨v1,rfl,h1⟩:=e;exact⟨hc 0 _ rfl,hc 1 _ rfl,⟨v1,hc 2 _ rfl,h1.keep hk hs⟩,hc 3 _ rfl⟩
theorem blksW_of{ps:List (PBlock×Value×Value)}(hk:Kept W.heap.size W w)(hs:W.heap.size≤w.heap.size)(h:RRow w base 46 7 (CBW W w base) v ps)(hn:ps.length≤1048576)
 (hp:∀p∈ps,p.1.phis.length≤1048576∧p.1.insts.length≤1048576):SBlks w w.heap.size v (ps.map Prod.fst):=by
 obtain⟨A,c,rfl,hl,hc,hr⟩:=h.done (D:=fun _=>True) hn (fun _ _ _=>trivial);refine⟨A,c,by rw[List.length_map],by rw[List.length_map];exact hl,by rw[List.length_map];exact hc,fun i x hx=>?_⟩;rw[List.getElem?_map]at hx;obtain⟨p,hx2,rfl⟩:=Option.map_eq_some_iff.1 hx;obtain⟨b,off,cs,ha,-,hb,-,hcells,rfl,hz,h1,h2⟩:=hr i p hx2;have hm:=hp p (List.mem_of_getElem? hx2);exact⟨b,off,ha,hb,hz,hcells 0 _ rfl,⟨_,hcells 1 _ rfl,phisW_of hk hs h1 hm.1⟩,⟨_,hcells 2 _ rfl,instsW_of hk hs h2 hm.2⟩,hcells 3 _ rfl,hcells 4 _ rfl,hcells 5 _ rfl,hcells 6 _ rfl⟩
theorem fnW_of{F G:PFunc}{v0 v1 v2 vb:Value}{ps:List (PBlock×Value×Value)}(hF:FnV W W.heap.size (.agg #[v0,v1,v2]) F)(hk:Kept W.heap.size W w)(hs:W.heap.size≤w.heap.size)(h:RRow w base 46 7 (CBW W w base) vb ps)
 (he:ps.map Prod.fst=G.blocks) (h0:G.vars=F.vars) (h1:G.params=F.params) (hB:Bnd G):FnV w w.heap.size (.agg #[v0,v1,vb]) G:=by
 obtain⟨u0,u1,u2,e,s0,s1,-⟩:=hF;simp only[Value.agg.injEq,Array.mk.injEq,List.cons.injEq,and_true]at e;obtain⟨rfl,rfl,rfl⟩:=e;refine⟨v0,v1,vb,rfl,by rw[h0];exact s0.keep hk hs,by rw[h1];exact s1.keep hk hs,?_⟩;rw[← he];refine blksW_of hk hs h (by have:=hB.blocks;rw[← he,List.length_map]at this;omega) fun p hp=>?_
 have hm:p.1∈G.blocks:=by rw[← he];exact List.mem_map_of_mem hp
 have:=hB.parts _ hm;exact⟨ZO,ZO⟩
end
def CBX(W w:World)(base:Nat)(cs:List Value)(x:PBlock×Value):Prop:=
 ∃vp,cs=[.string x.1.name,vp,x.2,.int .i64 x.1.term.kind,.int .i64 x.1.term.var,.int .i64 x.1.term.t0,.int .i64 x.1.term.t1]∧x.1.name.size≤maxLen∧SPhis W W.heap.size vp x.1.phis∧RRow w base 49 4 (CInW W) x.2 x.1.insts
theorem CBX.kt{W w w':World}{base:Nat}{ts:List TypeId}(hk:KT ts w w')(hi:49∈ts){cs:List Value}{x:PBlock×Value}(h:CBX W w base cs x):CBX W w' base cs x:=by
 obtain⟨vp,h1,h2,h3,h4⟩:=h;exact⟨vp,h1,h2,h3,h4.kt hk hi (fun _ _ h=>h)⟩
section
variable {W w:World} {base:Nat} {v:Value}
theorem blksX_of{ps:List (PBlock×Value)}(hk:Kept W.heap.size W w)(hs:W.heap.size≤w.heap.size)(h:RRow w base 46 7 (CBX W w base) v ps)(hn:ps.length≤1048576)
 (hp:∀p∈ps,p.1.insts.length≤1048576):SBlks w w.heap.size v (ps.map Prod.fst):=by
 obtain⟨A,c,rfl,hl,hc,hr⟩:=h.done (D:=fun _=>True) hn (fun _ _ _=>trivial);refine⟨A,c,by rw[List.length_map],by rw[List.length_map];exact hl,by rw[List.length_map];exact hc,fun i x hx=>?_⟩;rw[List.getElem?_map]at hx;obtain⟨p,hx2,rfl⟩:=Option.map_eq_some_iff.1 hx;obtain⟨b,off,cs,ha,-,hb,-,hcells,vp,rfl,hz,h1,h2⟩:=hr i p hx2;have hm:=hp p (List.mem_of_getElem? hx2);exact⟨b,off,ha,hb,hz,hcells 0 _ rfl,⟨_,hcells 1 _ rfl,h1.keep hk hs⟩,⟨_,hcells 2 _ rfl,instsW_of hk hs h2 hm⟩,hcells 3 _ rfl,hcells 4 _ rfl,hcells 5 _ rfl,hcells 6 _ rfl⟩
theorem fnX_of{F G:PFunc}{v0 v1 v2 vb:Value}{ps:List (PBlock×Value)}(hF:FnV W W.heap.size (.agg #[v0,v1,v2]) F)(hk:Kept W.heap.size W w)(hs:W.heap.size≤w.heap.size)(h:RRow w base 46 7 (CBX W w base) vb ps)
 (he:ps.map Prod.fst=G.blocks) (h0:G.vars=F.vars) (h1:G.params=F.params) (hB:Bnd G):FnV w w.heap.size (.agg #[v0,v1,vb]) G:=by
 obtain⟨u0,u1,u2,e,s0,s1,-⟩:=hF;simp only[Value.agg.injEq,Array.mk.injEq,List.cons.injEq,and_true]at e;obtain⟨rfl,rfl,rfl⟩:=e;refine⟨v0,v1,vb,rfl,by rw[h0];exact s0.keep hk hs,by rw[h1];exact s1.keep hk hs,?_⟩;rw[← he];refine blksX_of hk hs h (by have:=hB.blocks;rw[← he,List.length_map]at this;omega) fun p hp=>?_
 have hm:p.1∈G.blocks:=by rw[← he];exact List.mem_map_of_mem hp
 have:=hB.parts _ hm;omega
end
theorem inV_keep{w w':World}{B B':Nat}{v:Value}{I:PIn}(h:InV w B v I)(hk:Kept B w w')(hB:B≤B'):InV w' B' v I:=by
 obtain⟨v0,v1,rfl,h0,h1⟩:=h;refine⟨v0,v1,rfl,h0.keep hB fun b o x hb hx=>⟨(hk _ _ hb).trans hx.1,(hk _ _ hb).trans hx.2.1,(hk _ _ hb).trans hx.2.2⟩,h1.keep hB fun b o x hb hx=>?_⟩;obtain⟨v,e1,e2⟩:=hx;exact⟨v,(hk _ _ hb).trans e1,e2.keep hk hB⟩
theorem runR_inv{F:PFunc}(hT:typedP F=true)(hN:NumsR F):∀(k:Nat) (s:RSt),RInv F s→RInv F (runR F k s)
 |0,_,h=>h
 |k+1,s,h=>by
  rw[runR];split
  · exact h
  · exact runR_inv hT hN k _ (h.step hT hN)
theorem single_joined{F:PFunc}(h:singleB F=true):joinedB F=true:=by
 unfold singleB at h;simp only[Bool.and_eq_true]at h;exact h.1.1.1
theorem const_dst{F:PFunc}(hT:typedP F=true){i k:Nat}(hi:i<F.blocks.length)(hk:k<(F.blk i).insts.length)(h0:((F.blk i).inst k).op=0):∃c:Nat,((F.blk i).inst k).dst=c∧c<F.vars.length:=by
 have h:=(shaped_blk (typed_shaped hT) hi).2.1 _ (mem_of_Inst hk);unfold instB dstB at h;simp only[Bool.and_eq_true]at h;have h1:=h.1.2;rw[h0,if_pos (by decide +kernel)]at h1;exact inB_nat h1
def xorG(a b:Int):Int:=bits .xor .i64 a b
def chB(l:List Bool)(m:Int)(b:PBlock):PBlock:={ b with insts:=b.insts.map (chgI l m xorG) }
theorem chg_take{l:List Bool}{m:Int}{b:PBlock}{k:Nat}(h:k<b.insts.length):(b.insts.take (k+1)).map (chgI l m xorG)=(b.insts.take k).map (chgI l m xorG)++[chgI l m xorG (b.inst k)]:=by
 rw[take_inst h,List.map_append];rfl
theorem ch_in{l:List Bool}{m:Int}{F:PFunc}{b:PBlock}(h:b∈(ChF l m xorG F).blocks):∃a∈F.blocks,chB l m a=b:=List.mem_map.1 h
theorem ch_bnd{l:List Bool}{m:Int}{F:PFunc}(h:Bnd F):Bnd (ChF l m xorG F):=by
 refine⟨h.vars,h.params,by simpa[ChF]using h.blocks,fun b hb=>?_,fun b hb p hp=>?_,fun b hb x hx=>?_⟩
 · obtain⟨a,ha,rfl⟩:=ch_in hb
   have:=h.parts a ha;exact⟨this.1,by simpa[chB]using this.2⟩
 · obtain⟨a,ha,rfl⟩:=ch_in hb
   exact h.pairs a ha p hp
 · obtain⟨a,ha,rfl⟩:=ch_in hb
   obtain⟨y,hy,rfl⟩:=List.mem_map.1 hx;rw[(chg_same y).2.2];exact h.args a ha y hy
theorem ch_nums{l:List Bool}{m:Int}{F:PFunc}(h:NumsR F):NumsR (ChF l m xorG F):=by
 intro b hb x hx;obtain⟨a,ha,rfl⟩:=ch_in hb;obtain⟨y,hy,rfl⟩:=List.mem_map.1 hx;unfold chgI;split
 · show I64 (bits .xor .i64 y.num m)
   exact i64_of_wf (wf_bits .xor .i64 y.num m)
 · exact h a ha y hy
theorem ch_len{l:List Bool}{m:Int}{F:PFunc}:(ChF l m xorG F).blocks.length=F.blocks.length:=by simp[ChF]
theorem ch_inst{l:List Bool}{m:Int}{F:PFunc}{x:PInst}(h:instB F x=true):instB (ChF l m xorG F) (chgI l m xorG x)=true:=by
 unfold chgI;split
 · rename_i h0
   unfold instB at *;simp only[Bool.and_eq_true]at h ⊢;exact⟨h.1,by rw[h0.1];simp⟩
 · exact h
theorem ch_block{l:List Bool}{m:Int}{F:PFunc}{b:PBlock}(h:blockB F b=true):blockB (ChF l m xorG F) (chB l m b)=true:=by
 have hp:phiB (ChF l m xorG F)=phiB F:=by
  funext p;unfold phiB atsB;rw[ch_len];rfl
 have ht:termB (ChF l m xorG F)=termB F:=by
  funext t;unfold termB;rw[ch_len];rfl
 unfold blockB at *;rw[hp,ht];simp only[Bool.and_eq_true,Bool.not_eq_true',List.any_eq_false]at h ⊢;refine⟨⟨h.1.1,fun x hx=>?_⟩,h.2⟩;obtain⟨y,hy,rfl⟩:=List.mem_map.1 hx;have:=ch_inst (l:=l) (m:=m) (by simpa using h.1.2 y hy);simpa using this
theorem ch_sum{l:List Bool}{m:Int}:∀{bs:List PBlock},sumB (bs.map (chB l m))=sumB bs
 |[]=>rfl
 |b::r=>by
  have ih:=ch_sum (l:=l) (m:=m) (bs:=r);simp only[List.map_cons,sumB,ih];simp[chB]
theorem ch_takes{l:List Bool}{m:Int}{F:PFunc}:∀{a b:List Int},takesT (ChF l m xorG F) a b=takesT F a b
 |[],_=>by simp[takesT]
 |_::_,[]=>by simp[takesT]
 |x::a,t::b=>by
  have ih:=ch_takes (l:=l) (m:=m) (F:=F) (a:=a) (b:=b);simp only[takesT,ih];rfl
theorem ch_instT{l:List Bool}{m:Int}{F:PFunc}{x:PInst}:instT (ChF l m xorG F) (chgI l m xorG x)=instT F x:=by
 obtain⟨h1,h2,h3⟩:=chg_same (l:=l) (by':=m) (g:=xorG) x;unfold instT;rw[ch_takes,h1,h2,h3];rfl
theorem ch_typed{l:List Bool}{m:Int}{F:PFunc}(h:typedP F=true):typedP (ChF l m xorG F)=true:=by
 unfold typedP at *;simp only[Bool.and_eq_true,List.all_eq_true]at h ⊢;refine⟨?_,fun b hb=>?_⟩
 · have h1:=h.1
   unfold shapedP at *;simp only[Bool.and_eq_true,decide_eq_true_eq,List.all_eq_true]at h1 ⊢;refine⟨⟨?_,fun b hb=>?_⟩,by have:=h1.2;rw[show(ChF l m xorG F).blocks=F.blocks.map (chB l m)from rfl,ch_sum];exact this⟩
   · have hn:bnames (ChF l m xorG F)=bnames F:=by
      unfold bnames ChF;simp only[List.map_map];rfl
     have:=h1.1.1;unfold namesB at *;rw[hn,ch_len];exact this
   · obtain⟨a,ha,rfl⟩:=ch_in hb
     exact ch_block (h1.1.2 a ha)
 · obtain⟨a,ha,rfl⟩:=ch_in hb
   have:=h.2 a ha;unfold blkT at *;simp only[Bool.and_eq_true,List.all_eq_true]at this ⊢;refine⟨⟨this.1.1,fun x hx=>?_⟩,this.2⟩;obtain⟨y,hy,rfl⟩:=List.mem_map.1 hx;rw[ch_instT];exact this.1.2 y hy
theorem mod301(n:Nat):wrap64 (Int.tmod (n:Int) 301)=((n%301:Nat):Int)∧Int.tmod (n:Int) 301=((n%301:Nat):Int):=by
 rw[Int.tmod_eq_emod_of_nonneg (Int.natCast_nonneg n)];refine⟨?_,ZO⟩;unfold wrap64;omega
set_option maxHeartbeats 16000000 in
theorem deadAny_law{W:World}{fv iv:Value}{F:PFunc}{I:PIn}{nf:Nat}{m:Int}(hU:Uni W)(hF:FnV W W.heap.size fv F)(hN:NumsR F)(hI:InV W W.heap.size iv I)(hIn:InNum I)(_hn:nf<65536) :
 Calls Tryz.prog 3 #[fv,iv,.int .u16 nf,.int .i64 m] W fun e w'=>e=.returned (.bool true)∧Below W.heap.size W w':=by
 have hlv:=fun(w:World) (h:Below W.heap.size W w)=>livesX_calls hU h
 have hty:=fun(w:World) (h:Below W.heap.size W w)=>lawSingle_calls hU hF h
 have hsm:=fun(w:World) (h:Below W.heap.size W w)=>smallI_calls hI h
 obtain⟨w,rfl⟩:∃w:World,w=W:=⟨_,rfl⟩;obtain⟨A0,c0,A1,c1,A2,c2,rfl,l0,l1,l2,-,-,-,r0,r1,r2⟩:=id hF.open_;obtain⟨B0,d0,B1,d1,rfl,m0,m1,k0,k1,q0,q1⟩:=id hI.open_;unfold Len at *;have HR2:=Lh r2;clear r0 r1 r2 q0 q1;have hx0:Below w.heap.size w ((w.alloc (.cells #[.slice A0 F.vars.length c0,.slice A1 F.params.length c1,.slice A2 F.blocks.length c2] 26)).alloc (.cells #[.slice B0 I.args.length d0,.slice B1 I.rows.length d1] 30)):=BL;cases hx:(lawT F&&singleB F)
 · rw[hx]at hty
   clear hx hF hI hN hIn hsm HR2;go_enter Tryz.func3,Tryz.ntmps3;go_wp2_with fail;refine(hlv _ hx0).mono ?_;rintro e w1 ⟨rfl,hb1⟩;have hX1:InBox w1 w.heap.size _ _ _ _ _:=InBox.of (by simpa using hb1);have hB1:Below w.heap.size w w1:=hx0.trans (hb1.mono ZX);obtain⟨e0,e1,g0,g1,g2,g3,g4⟩:=hX1.all;go_wp2_with fail;refine(hty _ hB1).mono ?_;rintro e w2 ⟨rfl,hb2⟩;go_wp2_with fail;refine(hlv _ (hB1.trans (hb2.mono hB1.size))).mono ?_;rintro e w3 ⟨rfl,hb3⟩;go_wp2;go_ret;exact⟨rfl,hB1.trans ((hb2.trans (hb3.mono hb2.size)).mono hB1.size)⟩
 rw[hx]at hty;have hx1:lawT F=true∧singleB F=true:=by simpa using hx
 have hx2:fewB F=true∧typedP F=true:=by
  have:=hx1.1;unfold lawT at this;simpa using this
 have hS:=few_small hx2.1;have hT:=hx2.2;obtain⟨n1,n2⟩:=shaped_count (typed_shaped hT);have hpv:F.params.length≤F.vars.length:=by
  have:=typed_shaped hT;unfold shapedP at this;simp only[Bool.and_eq_true]at this;exact names_params this.1.1
 have hv512:F.vars.length≤512:=by
  have:=typed_shaped hT;unfold shapedP at this;simp only[Bool.and_eq_true]at this;exact names_vars this.1.1
 have hrt:=fun(w':World) (h:Below w.heap.size w w')=>rightI_calls hF hI h hpv
 have hB:=few_bnd hx2.1;have hRS:rightS F=true:=by rw[rightS,hT,hx1.2];rfl
 have HND:=Lh (fun(w':World) (h:Below w.heap.size w w')=>deadNeeded_calls hU hF h hS hB);unfold Hid at HND;rw[hRS]at HND;replace HND:=Lh HND;have HFV:=Lh hF;have HJN:=Lh (single_joined hx1.2);have HRF:=Lh (fun(w':World) (h:Below w.heap.size w w') (fuel:Nat) (hR:RightF F I) (hf:fuel≤1073741824)=>run_calls hF hI h hT hS hN hIn hR hpv hv512 hf);have HU:=Lh hU;have HI:=Lh hI;have HBD:=Lh hB;have HPV:=Lh hpv;have HNN:=Lh hN;have HT:=Lh hT;have HIn:=Lh hIn;have HOP:=Lh (fun i (hi:i<F.blocks.length)=>fun x hx=>inst_op ((shaped_blk (typed_shaped hT) hi).2.1 x hx));have HDR:=Lh (fun i (hi:i<F.blocks.length) (k:Nat) (hk:k<(F.blk i).insts.length) (h0:((F.blk i).inst k).op=0)=>const_dst hT hi hk h0);clear hx hx1 hx2 hF hI hN hIn hS hT hpv hB hRS;go_enter Tryz.func3,Tryz.ntmps3;go_wp2_with fail;refine(hlv _ hx0).mono ?_;rintro e w1 ⟨rfl,hb1⟩;have hX1:InBox w1 w.heap.size _ _ _ _ _:=InBox.of (by simpa using hb1);have hB1:Below w.heap.size w w1:=hx0.trans (hb1.mono ZX);obtain⟨e0,e1,g0,g1,g2,g3,g4⟩:=hX1.all;go_wp2_with fail;refine(hty _ hB1).mono ?_;rintro e w2 ⟨rfl,hb2⟩;have hX2:=hX1.below hb2 hX1.lt;have hB2:=hB1.trans (hb2.mono hB1.size);clear e0 e1 g0 g1 g2 g3 g4;obtain⟨e0,e1,g0,g1,g2,g3,g4⟩:=hX2.all;go_wp2_with fail;refine(hsm _ hB2).mono ?_;rintro e w3 ⟨⟨b,rfl⟩,hb3⟩;have hX3:=hX2.below hb3 hX2.lt;have hB3:=hB2.trans (hb3.mono hB2.size);clear e0 e1 g0 g1 g2 g3 g4 hb1 hb2 hb3 hX1 hX2 hB1 hB2 hx0;cases b
 · as_aux_lemma=>
   go_wp2_with fail;refine(hlv _ hB3).mono ?_;rintro e w4 ⟨rfl,hb4⟩;go_wp2;go_ret;exact⟨rfl,hB3.trans (hb4.mono hB3.size)⟩
 obtain⟨e0,e1,g0,g1,g2,g3,g4⟩:=hX3.all;go_wp2_with fail;refine(hrt _ hB3).mono ?_;rintro e w4 ⟨⟨r,rfl,hr⟩,hb4⟩;have hX4:=hX3.below hb4 hX3.lt;have hB4:=hB3.trans (hb4.mono hB3.size);clear e0 e1 g0 g1 g2 g3 g4 hb4 hX3 hB3
 by_cases hr0:r=0
 · as_aux_lemma=>
   have HR:=Lh (hr hr0);subst hr0;clear hr hlv hty hsm hrt;obtain⟨e0,e1,g0,g1,g2,g3,g4⟩:=hX4.all;go_wp2_with fail;refine(HND.out _ hB4).mono ?_;rintro e w5 ⟨⟨h,-⟩|⟨-,gi,rfl,ho5⟩,hb5⟩
   · cases h
   have hX5:=hX4.below hb5 hX4.lt;have hB5:=hB4.trans (hb5.mono hB4.size);have hBC5:BoolC w5 gi F.vars.length (ndL F):=⟨(ho5.lt _ rfl).2,fun f hf=>own_bool ho5 hf⟩;have hgi:=hBC5.1;clear e0 e1 g0 g1 g2 g3 g4 hb5 hX4 hB4 HND ho5;obtain⟨e0,e1,g0,g1,g2,g3,g4⟩:=hX5.all;obtain⟨l,hl⟩:∃l,l=ndL F:=⟨_,rfl⟩;rw[← hl]at hBC5;have HL:=Lh hl;have HBC:=Lh hBC5;have HX5:=Lh hX5;have HB5:=Lh hB5;obtain⟨wA,hwA⟩:∃wA,wA=w5.alloc (.cells #[.slice A0 F.vars.length c0,.slice A1 F.params.length c1,.slice none 0 0] 26):=⟨_,rfl⟩;have HWA:=Lh hwA;have HGA:=Lh (show BoxAt wA w5.heap.size #[.slice A0 F.vars.length c0,.slice A1 F.params.length c1,.slice none 0 0] 26 by rw[hwA];exact BoxAt.new _ _ _);have HBA:=Lh (show Below w5.heap.size w5 wA by rw[hwA];exact BL_alloc _ _);clear hwA hl hBC5 hX5 hB5;go_wp2_with fail;rw[← HWA.out];clear HWA e0 e1 g0 g1 g2 g3 g4
   go_loopw[49] (fun x wr=>∃(n:Nat) (vb:Value) (ps:List (PBlock×Value)),x=.int .i64 n∧n≤F.blocks.length∧Hid (ps.map Prod.fst=(F.blocks.take n).map (chB l m))∧BoxAt wr w5.heap.size #[.slice A0 F.vars.length c0,.slice A1 F.params.length c1,vb] 26∧RRow wr w5.heap.size 46 7 (CBX w wr w5.heap.size) vb ps∧Below w5.heap.size w5 wr) (fun x _=>F.blocks.length-(intOf x).toNat)
   case atStart=>exact⟨0,_,[],rfl,Nz _,by simp[Hid],HGA.out,RRow.nil,HBA.out⟩
   case round=>as_aux_lemma=>
    clear HGA HBA;obtain⟨n,vb,ps,rfl,hn,HPS,hbx,hR,hB⟩:=hrel;obtain⟨Ab,cb,rfl⟩:=hR.form;have hWr:Below w.heap.size w wr:=HB5.out.trans (hB.mono HB5.out.size)
    by_cases hlt:n<F.blocks.length
    · as_aux_lemma=>
      obtain⟨bb,off,A3,c3,A4,c4,rfl,hbb,hnz,hy0,hy1,hy2,hy3,hy4,hy5,hy6,l3,l4,k3,k4,r3,r4⟩:=(HR2.out).blk hWr hlt;have hpn:=HBD.out.parts _ (mem_of_blk hlt);have HSP:=Lh (show SPhis w w.heap.size (.slice A3 (F.blk n).phis.length c3) (F.blk n).phis from⟨_,_,rfl,l3,k3,r3⟩);unfold Len at l3 l4;obtain⟨wi,rfl⟩:∃wi:World,wi=wr:=⟨_,rfl⟩;have HBX:=Lh hbx;have HRR:=Lh hR;have HB:=Lh hB;have hgw:=hbx.lt;have HNZ:=Lh hnz;obtain⟨wC,hwC⟩:∃wC,wC=(wi.alloc (.cells #[.string (F.blk n).name,.slice A3 (F.blk n).phis.length c3,.slice A4 (F.blk n).insts.length c4,.int .i64 (F.blk n).term.kind,.int .i64 (F.blk n).term.var,.int .i64 (F.blk n).term.t0,.int .i64 (F.blk n).term.t1] 46)).alloc (.cells #[.string (F.blk n).name,.slice A3 (F.blk n).phis.length c3,.slice none 0 0,.int .i64 (F.blk n).term.kind,.int .i64 (F.blk n).term.var,.int .i64 (F.blk n).term.t0,.int .i64 (F.blk n).term.t1] 46):=⟨_,rfl⟩;have HWC:=Lh hwC
      have HXC:=Lh (show BoxAt wC (wi.heap.size+1) #[.string (F.blk n).name,.slice A3 (F.blk n).phis.length c3,.slice none 0 0,.int .i64 (F.blk n).term.kind,.int .i64 (F.blk n).term.var,.int .i64 (F.blk n).term.t0,.int .i64 (F.blk n).term.t1] 46 by
       rw[hwC];have h:=BoxAt.new (wi.alloc (.cells #[.string (F.blk n).name,.slice A3 (F.blk n).phis.length c3,.slice A4 (F.blk n).insts.length c4,.int .i64 (F.blk n).term.kind,.int .i64 (F.blk n).term.var,.int .i64 (F.blk n).term.t0,.int .i64 (F.blk n).term.t1] 46)) #[.string (F.blk n).name,.slice A3 (F.blk n).phis.length c3,.slice none 0 0,.int .i64 (F.blk n).term.kind,.int .i64 (F.blk n).term.var,.int .i64 (F.blk n).term.t0,.int .i64 (F.blk n).term.t1] 46;rw[World.size_alloc]at h
       exact h)
      have HBCi:=Lh (show Below wi.heap.size wi wC by rw[hwC];exact((Br _ _).alloc (Nr _) _).alloc ZS _);clear hwC hbx hR hB r3 hnz;go_wp2_with fail;rw[← HWC.out];clear HWC hy0 hy1 hy2 hy3 hy4 hy5 hy6
      go_loopw[58] (fun x wr=>∃(k:Nat) (vin:Value),x=.int .i64 k∧k≤(F.blk n).insts.length∧BoxAt wr (wi.heap.size+1) #[.string (F.blk n).name,.slice A3 (F.blk n).phis.length c3,vin,.int .i64 (F.blk n).term.kind,.int .i64 (F.blk n).term.var,.int .i64 (F.blk n).term.t0,.int .i64 (F.blk n).term.t1] 46∧RRow wr (wi.heap.size+2) 49 4 (CInW w) vin (((F.blk n).insts.take k).map (chgI l m xorG))∧Below wi.heap.size wi wr) (fun x _=>(F.blk n).insts.length-(intOf x).toNat)
      case atStart=>exact⟨0,_,rfl,Nz _,HXC.out,RRow.nil,HBCi.out⟩
      case round=>as_aux_lemma=>
       clear HXC HBCi;obtain⟨k,vin,rfl,hk,hbC,hJ,hbi⟩:=hrel;obtain⟨Ai,ci,rfl⟩:=hJ.form;have hWi:Below w.heap.size w wr:=hWr.trans (hbi.mono hWr.size);have hB5i:=HB.out.trans (hbi.mono HB.out.size)
       by_cases hkl:k<(F.blk n).insts.length
       · as_aux_lemma=>
         obtain⟨bp,op,A6,c6,rfl,hbp,hp0,hp1,hp2,hp3,l6,k6,r6⟩:=r4.inst hWi hkl;have HDC:=Lh (HDR.out n hlt k hkl);have HTK:=Lh (chg_take (l:=l) (m:=m) hkl);have hyl:(((F.blk n).insts.take k).map (chgI l m xorG)).length≤100000:=by simp;omega
         generalize ((F.blk n).insts.take k).map (chgI l m xorG)=ys at *;generalize (F.blk n).inst k=xi at *;obtain⟨num,hnum⟩:∃num,num=(chgI l m xorG xi).num:=⟨_,rfl⟩;have HNUM:=Lh hnum;clear hnum;have HCP:=Lh (fun(num:Int) (h:num=(chgI l m xorG xi).num)=>show CInW w [.int .i64 xi.op,.int .i64 xi.dst,.slice A6 xi.args.length c6,.int .i64 num] (chgI l m xorG xi)from⟨.slice A6 xi.args.length c6,by rw[(chg_same xi).1,(chg_same xi).2.1,h],by rw[(chg_same xi).2.2];exact⟨_,_,rfl,l6,k6,r6⟩⟩);have HXX:=Lh (BoxAt.new wr #[.int .i64 xi.op,.int .i64 xi.dst,.slice A6 xi.args.length c6,.int .i64 xi.num] 49);have HBX1:=Lh (BL_alloc wr (.cells #[.int .i64 xi.op,.int .i64 xi.dst,.slice A6 xi.args.length c6,.int .i64 xi.num] 49));have HJI:=Lh hJ;have HCI:=Lh hbC;have HII:=Lh hbi;unfold Len at l6;obtain⟨th,hth⟩:∃th:Bool,th=(decide (xi.op=0)&&!(l.getD xi.dst.toNat false)):=⟨_,rfl⟩;have HTH:=Lh hth;have HB5i:=Lh hB5i;clear hJ hbC hbi r6 hth hB5i;obtain⟨wx,hwx⟩:∃wx,wx=wr.alloc (.cells #[.int .i64 xi.op,.int .i64 xi.dst,.slice A6 xi.args.length c6,.int .i64 xi.num] 49):=⟨_,rfl⟩;have HWX:=Lh hwx;have hgx:wr.heap.size<wx.heap.size:=by rw[hwx];simp
         clear hwx
         go_upto_region 16 with fail
         rw[← HWX.out];have hxx:=HXX.out;rw[← HWX.out]at hxx;have hbx1:=HBX1.out;rw[← HWX.out]at hbx1;clear hp0 hp1 hp2 hp3 hbp HXX HBX1 HWX;have HXX:=Lh hxx;have HBX1:=Lh hbx1;have q0:=hxx.cell 0;have q1:=hxx.cell 1;simp at q0 q1;clear hxx hbx1
         go_cut[72] (fun s wy=>s=.bool th∧wy=wx)
         case first=>
          by_cases h0:xi.op=0
          · as_aux_lemma=>
            obtain⟨c,hc,hcl⟩:=HDC.out h0;have hcb:=((HBC.out.below HB5i.out).below HBX1.out).2 c hcl;have hgl:gi<wx.heap.size:=Nt (Nt hgi HB5i.out.size) HBX1.out.size;have HT2:=Lh (show th=!(l.getD c false) by rw[HTH.out,h0,hc,Int.toNat_natCast];simp);rw[h0]at q0;rw[hc]at q1;clear h0 hc HTH HDC;generalize l.getD c false=tb at *;go_wp2
            go_meet
            exact⟨by rw[HT2.out],rfl⟩
          · as_aux_lemma=>
            have hd:decide (xi.op=0)=false:=decide_eq_false h0;have hd2:(xi.op==0)=false:=by simp[h0]
            have HT2:=Lh (show th=false by rw[HTH.out,hd,Bool.false_and]);clear h0 HTH HDC;go_wp2
            go_meet
            exact⟨by rw[HT2.out],rfl⟩
         case rest=>as_aux_lemma=>
          obtain⟨rfl,rfl⟩:=hcut;clear q0 q1
          go_upto_if 72 with fail
          go_cut[73] (fun _ wy=>BoxAt wy wr.heap.size #[.int .i64 xi.op,.int .i64 xi.dst,.slice A6 xi.args.length c6,.int .i64 num] 49∧Below wr.heap.size wr wy)
          case first=>
           cases th
           · as_aux_lemma=>
             have hx9:=HXX.out;rw[show xi.num=num by rw[HNUM.out];unfold chgI;rw[if_neg (fun h=>by have:=HTH.out;rw[decide_eq_true h.1,h.2]at this;cases this)]]at hx9;have HX9:=Lh hx9;clear hx9;go_wp2
             go_meet
             exact⟨HX9.out,HBX1.out⟩
           · as_aux_lemma=>
             have q3:=HXX.out.cell 3;have qf:=HXX.out.frozen 3;simp at q3
             have HN2:=Lh (show num=bits .xor .i64 xi.num m by
              have h:=HTH.out.symm;rw[Bool.and_eq_true,decide_eq_true_eq,Bool.not_eq_true']at h;rw[HNUM.out];unfold chgI;rw[if_pos h]
              rfl)
             clear HTH HNUM;go_wp2
             go_meet
             exact⟨by rw[HN2.out];simpa using HXX.out.set 3 (.int .i64 (bits .xor .i64 xi.num m)),HBX1.out.setCell (Nr _) _⟩
          case rest=>as_aux_lemma=>
           obtain⟨hx9,hb99⟩:=hcut;obtain⟨w9,rfl⟩:∃w9:World,w9=wc:=⟨_,rfl⟩;have z0:=hx9.cell 0;have z1:=hx9.cell 1;have z2:=hx9.cell 2;have z3:=hx9.cell 3;have zl:=hx9.lt;simp only[List.getElem?_toArray,List.getElem?_cons_zero,List.getElem?_cons_succ]at z0 z1 z2 z3;have hJ:=HJI.out;have hbC:=HCI.out;have hbi:=HII.out;clear hx9 HXX HBX1 HTH HJI HCI HII;have hJ9:=hJ.kt (KT.of_below hb99 (ts:=[49])) ZS (fun _ _ h=>h);obtain⟨cells,hO⟩:=hJ9.own;have hob:=fun k' (hk':(Value.slice Ai ys.length ci).ownBlock=some k')=>(hJ.lt hk').1
           have hbC9:=hbC.below hb99 hbC.lt;have hc1:=hbC9.cell 2;simp at hc1;have hgC:=hbC9.lt;have hfC:=hbC9.frozen 2;have HOB:=Lh hob;have HJ9:=Lh hJ9;have HBI:=Lh (hbi.trans (hb99.mono hbi.size));have hzi:wi.heap.size≤w9.heap.size:=(hbi.trans (hb99.mono hbi.size)).size;clear hob hJ9 hJ hbC hb99 hbi
           go_wp2_with(
            at_builtin;go_loud (refine wpList_appendF _ rfl _ _ 40 rfl (wi.heap.size+2) 49 4 48 Tryz.underlying40 Tryz.info49 rfl ZD _ ys.length cells rfl hO _ (by first|rfl|simp) #[.int .i64 xi.op,.int .i64 xi.dst,.slice A6 xi.args.length c6,.int .i64 num] rfl rfl (by intro u hu;simp at hu;rcases hu with rfl|rfl|rfl|rfl<;>rfl) ZO ZD (by first|omega|(simp;omega)) ?_)
            intro v' w4 hown3 hg4 hfr3;obtain⟨Av,cv,hv3⟩:=own_form hown3;subst hv3;have hgg:(w9.alloc (.cells #[.int .i64 xi.op,.int .i64 xi.dst,.slice A6 xi.args.length c6,.int .i64 num] 49)).grownBy w4 (Value.slice Ai ys.length ci).ownBlock:=hg4;clear hg4;have hz3:=hgg.size;simp at hz3;have hbC3:=(hbC9.alloc _).grown hgg (fun e=>by have:=HOB.out _ e;omega);have t3:=hbC3.cell 2;simp at t3;have t3f:=hbC3.frozen 2
            have t3l:=hbC3.lt)
           go_roundw
           case rel=>
            refine⟨k+1,.slice Av (ys.length+1) cv,ZN,ZO,?_,?_,?_⟩
            · simpa using hbC3.set 2 (.slice Av (ys.length+1) cv)
            · rw[HTK.out]
              exact RRow.snoc (cs:=[.int .i64 xi.op,.int .i64 xi.dst,.slice A6 xi.args.length c6,.int .i64 num]) HJ9.out hO (ownsRow_setCell_other hown3 (fun e=>by have:=(own_lt hown3 e).1;simp at this) _) rfl (fun _ _ h=>h) (HCP.out num HNUM.out)
            · exact((HBI.out.alloc hzi _).grown hgg ZX (fun k' hk'=>by have:=HOB.out k' hk';omega)).setCell ZS _
           case measure=>simp[intOf];omega
       · as_aux_lemma=>
         obtain rfl:k=(F.blk n).insts.length:=by omega
         rw[List.take_length]at hJ hbC;have hgo:=HBX.out.below hbi hgw;have o2:=hgo.cell 2;have ogl:=hgo.lt;simp at o2;have hgC:=hbC.lt;have hKr:KT [49,46] wi wr:=KT.of_below hbi;have hRr:RRow wr w5.heap.size 46 7 (CBX w wr w5.heap.size) (.slice Ab ps.length cb) ps:=HRR.out.kt hKr ZS (fun _ _ h=>CBX.kt hKr ZS h);obtain⟨cells,hOb⟩:=hRr.own;have hpl:ps.length=n:=by have:=congrArg List.length HPS.out;simpa[Nat.min_eq_left hn]using this
         have hob:=fun k' (hk':(Value.slice Ab ps.length cb).ownBlock=some k')=>(HRR.out.lt hk').1
         have HOB:=Lh hob;have HRB:=Lh hRr;have HIN:=Lh hJ;have HBI:=Lh hB5i;have hzb:=hB5i.size;have hzi:=hbi.size;have hple:ps.length≤64:=by omega
         have hcR:wr.rangeAt (wi.heap.size+1) 0 ([.string (F.blk n).name,.slice A3 (F.blk n).phis.length c3,.slice Ai ((F.blk n).insts.map (chgI l m xorG)).length ci,.int .i64 (F.blk n).term.kind,.int .i64 (F.blk n).term.var,.int .i64 (F.blk n).term.t0,.int .i64 (F.blk n).term.t1]:List Value):=by
          have:=World.rangeAt_of_block (w:=wr) (b:=wi.heap.size+1) hbC 0 7;simpa using this
         have huB:=Tryz.underlying46;have hinB:(Tryz.prog.info? 46).map (·.size)=some ([.string (F.blk n).name,.slice A3 (F.blk n).phis.length c3,.slice Ai ((F.blk n).insts.map (chgI l m xorG)).length ci,.int .i64 (F.blk n).term.kind,.int .i64 (F.blk n).term.var,.int .i64 (F.blk n).term.t0,.int .i64 (F.blk n).term.t1]:List Value).length:=by kernel_rfl
         clear hpl hob hRr hJ hB5i hbC hbi hKr hk hkl hWi
         go_upto_region 20 with fail
         go_wp2_with(first
          |(refine wpList_load_mid rfl 46 _ rfl (wi.heap.size+1) 0 rfl [.string (F.blk n).name,.slice A3 (F.blk n).phis.length c3,.slice Ai ((F.blk n).insts.map (chgI l m xorG)).length ci,.int .i64 (F.blk n).term.kind,.int .i64 (F.blk n).term.var,.int .i64 (F.blk n).term.t0,.int .i64 (F.blk n).term.t1] _ hcR huB rfl hinB ?_)
          |(refine wpList_one7 rfl _ _ _ rfl Tryz.underlying24 Tryz.info46 rfl ?_)
          |(at_builtin;refine wpList_appendF _ rfl _ _ 24 rfl w5.heap.size 46 7 96 Tryz.underlying24 Tryz.info46 rfl ZD _ ps.length cells rfl hOb _ ZS #[.string (F.blk n).name,.slice A3 (F.blk n).phis.length c3,.slice Ai ((F.blk n).insts.map (chgI l m xorG)).length ci,.int .i64 (F.blk n).term.kind,.int .i64 (F.blk n).term.var,.int .i64 (F.blk n).term.t0,.int .i64 (F.blk n).term.t1] rfl rfl (by intro u hu;simp at hu;rcases hu with rfl|rfl|rfl|rfl|rfl|rfl|rfl<;>rfl) ZO ZD (by first|omega|(simp;omega)) ?_
            intro v' w4 hown3 hg4 hfr3;obtain⟨Av,cv,hv3⟩:=own_form hown3;subst hv3;have hgg:(wr.alloc (.cells #[.string (F.blk n).name,.slice A3 (F.blk n).phis.length c3,.slice Ai ((F.blk n).insts.map (chgI l m xorG)).length ci,.int .i64 (F.blk n).term.kind,.int .i64 (F.blk n).term.var,.int .i64 (F.blk n).term.t0,.int .i64 (F.blk n).term.t1] 46)).grownBy w4 (Value.slice Ab ps.length cb).ownBlock:=hg4;clear hg4;have hz3:=hgg.size;simp at hz3;have hgo3:=(hgo.alloc (.cells #[.string (F.blk n).name,.slice A3 (F.blk n).phis.length c3,.slice Ai ((F.blk n).insts.map (chgI l m xorG)).length ci,.int .i64 (F.blk n).term.kind,.int .i64 (F.blk n).term.var,.int .i64 (F.blk n).term.t0,.int .i64 (F.blk n).term.t1] 46)).grown hgg (fun e=>own_box_ne hOb hgo ZD e);have t3:=hgo3.cell 2;simp at t3;have t3f:=hgo3.frozen 2
            have t3l:=hgo3.lt))
         go_roundw
         case rel=>
          have hKz:KT [3,4,81,49,70] wr (w4.setCell ⟨w5.heap.size,2,none⟩ (.slice Av (ps.length+1) cv)):=((KT.refl.alloc _).grown (hOb.alloc _) ZS hgg).setCell hgo3 ZS _;have hbl:Below w5.heap.size wr (w4.setCell ⟨w5.heap.size,2,none⟩ (.slice Av (ps.length+1) cv)):=(((Br w5.heap.size wr).alloc ZO _).grown hgg ZX (fun k' hk'=>HOB.out k' hk')).setCell (Nr _) _;refine⟨n+1,.slice Av (ps.length+1) cv,ps++[(chB l m (F.blk n),.slice Ai ((F.blk n).insts.map (chgI l m xorG)).length ci)],ZN,ZO,?_,by simpa using hgo3.set 2 (.slice Av (ps.length+1) cv),?_,HBI.out.trans hbl⟩
          · show(ps++[_]).map Prod.fst=_
            rw[List.map_append,HPS.out,takeBlk hlt,List.map_append];rfl
          · refine RRow.snoc (cs:=[.string (F.blk n).name,.slice A3 (F.blk n).phis.length c3,.slice Ai ((F.blk n).insts.map (chgI l m xorG)).length ci,.int .i64 (F.blk n).term.kind,.int .i64 (F.blk n).term.var,.int .i64 (F.blk n).term.t0,.int .i64 (F.blk n).term.t1]) HRB.out hOb (ownsRow_setCell_other hown3 (fun e=>own_box_ne hown3 hgo3 ZD e) _) rfl (fun _ _ h=>CBX.kt hKz ZS h) ?_
            exact⟨_,rfl,HNZ.out,HSP.out,(HIN.out.kt hKz ZS (fun _ _ h=>h)).rebase ZO⟩
         case measure=>simp[intOf];omega
    · as_aux_lemma=>
      obtain rfl:n=F.blocks.length:=by omega
      rw[List.take_length]at HPS;have hpl:ps.length=F.blocks.length:=by have:=congrArg List.length HPS.out;simpa using this
      have hG:FnV wr wr.heap.size (.agg #[.slice A0 F.vars.length c0,.slice A1 F.params.length c1,.slice Ab ps.length cb]) (ChF l m xorG F):=fnX_of HFV.out (Kept.of_below hWr) hWr.size hR HPS.out rfl rfl (ch_bnd HBD.out);have hXr:=HX5.out.below hB HX5.out.lt;obtain⟨e0,e1,g0,g1,g2,g3,g4⟩:=hXr.all;have x0:=hbx.cell 0;have x1:=hbx.cell 1;have x2:=hbx.cell 2;have xl:=hbx.lt;simp at x0 x1 x2;have hB2:=ch_bnd (l:=l) (m:=m) HBD.out;have hT2:=ch_typed (l:=l) (m:=m) HT.out;have hI5:InV wr wr.heap.size (.agg #[.slice B0 I.args.length d0,.slice B1 I.rows.length d1]) I:=inV_keep HI.out (Kept.of_below hWr) hWr.size;have hR2':RightF (ChF l m xorG F) I:=by
       obtain⟨a,b,c,d⟩:=HR.out;exact⟨a,b,c,d⟩
      obtain⟨kk,hkk⟩:∃kk:Nat,kk=nf%301:=⟨_,rfl⟩;obtain⟨hmod,hmod2⟩:=mod301 nf;rw[← hkk]at hmod hmod2;have hk301:kk<301:=by rw[hkk];exact Nat.mod_lt _ ZD
      clear hkk;have hinv:=beginR_inv HT.out HR.out HIn.out;have hsim:=sim_all (ch_ok (rngF_of HT.out) (by':=m) (g:=xorG)) HT.out HJN.out HNN.out hinv sim_0 (fun _=>rfl) (K:=kk) ZO;rw[ch_shF,← HL.out]at hsim;have hlt:=(runR_inv HT.out HNN.out kk (beginR F I) hinv).lt;have hGv:∀vt,outV (runR (ChF l m xorG F) kk (beginR F I)) vt=outV (runR F kk (beginR F I)) vt:=fun vt=>by
       unfold outV;rw[hsim.1.ending,hsim.1.value,hsim.1.trap,hsim.1.checks,hsim.2]
      have hGt:=hsim.1.trace;have e3:(ChF l m xorG F).vars.length=F.vars.length:=rfl;have e4:(ChF l m xorG F).params.length=F.params.length:=rfl;have e5:(ChF l m xorG F).blocks.length=ps.length:=by rw[ch_len,hpl]
      have HG2:Hid (∀w':World,Below wr.heap.size wr w'→Calls Tryz.prog 14 #[.agg #[.slice A0 F.vars.length c0,.slice A1 F.params.length c1,.slice Ab ps.length cb],.agg #[.slice B0 I.args.length d0,.slice B1 I.rows.length d1],.int .i64 kk] w' fun e w''=>∃vt,e=.returned (outV (runR F kk (beginR F I)) vt)∧w''.ownsRow 0 2 1 vt (runR F kk (beginR F I)).trace.length ((runR F kk (beginR F I)).trace.map (Value.int .i64))∧Below w'.heap.size w' w''):=fun w' h=>by
       rw[← e3,← e4,← e5]at hG ⊢;refine(run_calls hG hI5 h hT2 hB2.small (ch_nums HNN.out) HIn.out hR2' HPV.out hv512 ZO).mono ?_;rintro e w'' ⟨vt,he,ho,hb⟩;rw[show beginR (ChF l m xorG F) I=beginR F I from rfl]at he ho;rw[hGv]at he;rw[← hGt]at ho;exact⟨vt,he,ho,hb⟩
      have HF2:Hid (∀w':World,Below w.heap.size w w'→Calls Tryz.prog 14 #[.agg #[.slice A0 F.vars.length c0,.slice A1 F.params.length c1,.slice A2 F.blocks.length c2],.agg #[.slice B0 I.args.length d0,.slice B1 I.rows.length d1],.int .i64 kk] w' fun e w''=>∃vt,e=.returned (outV (runR F kk (beginR F I)) vt)∧w''.ownsRow 0 2 1 vt (runR F kk (beginR F I)).trace.length ((runR F kk (beginR F I)).trace.map (Value.int .i64))∧Below w'.heap.size w' w''):=fun w' h=>HRF.out w' h kk HR.out ZO
      clear hsim hGv hGt hinv hG hI5 hR2' hT2 hB2 e3 e4 e5;generalize runR F kk (beginR F I)=S9 at *;have HBB:=Lh hWr;have hs5:=hWr.size;clear hR hB hbx hXr hpl
      go_upto_region 23 with fail
      obtain⟨S0,hS0⟩:∃S0:World→Prop,S0=fun w'=>w'.cell? ⟨w.heap.size,0,none⟩=some (.slice A0 F.vars.length c0)∧w'.cell? ⟨w.heap.size,1,none⟩=some (.slice A1 F.params.length c1)∧w'.cell? ⟨w.heap.size,2,none⟩=some (.slice A2 F.blocks.length c2)∧w'.cell? ⟨w.heap.size+1,0,none⟩=some (.slice B0 I.args.length d0)∧w'.cell? ⟨w.heap.size+1,1,none⟩=some (.slice B1 I.rows.length d1)∧w'.cell? ⟨w5.heap.size,0,none⟩=some (.slice A0 F.vars.length c0)∧w'.cell? ⟨w5.heap.size,1,none⟩=some (.slice A1 F.params.length c1)∧w'.cell? ⟨w5.heap.size,2,none⟩=some (.slice Ab ps.length cb)∧Below wr.heap.size wr w'∧w.heap.size<w'.heap.size∧w.heap.size+1<w'.heap.size∧w5.heap.size<w'.heap.size:=⟨_,rfl⟩
      have HS0:=Lh hS0;clear hS0;have k0:=fun xw=>(WS.at HS0 xw).1
      have k1:=fun xw=>(WS.at HS0 xw).2.1
      have k2:=fun xw=>(WS.at HS0 xw).2.2.1
      have k3:=fun xw=>(WS.at HS0 xw).2.2.2.1
      have k4:=fun xw=>(WS.at HS0 xw).2.2.2.2.1
      have k5:=fun xw=>(WS.at HS0 xw).2.2.2.2.2.1
      have k6:=fun xw=>(WS.at HS0 xw).2.2.2.2.2.2.1
      have k7:=fun xw=>(WS.at HS0 xw).2.2.2.2.2.2.2.1
      have k8:=fun xw=>(WS.at HS0 xw).2.2.2.2.2.2.2.2.1
      have k9:=fun xw=>(WS.at HS0 xw).2.2.2.2.2.2.2.2.2.1
      have k10:=fun xw=>(WS.at HS0 xw).2.2.2.2.2.2.2.2.2.2.1
      have k11:=fun xw=>(WS.at HS0 xw).2.2.2.2.2.2.2.2.2.2.2
      refine wp_region_sched (S:=S0) [0,1,2,4,5,6,3,7,8,9] ZK ZK (fun _ _ _ _ _ h=>h) ?hS (fun hSc=>?_)
      case hS=>
       rw[HS0.out];exact⟨ZI,ZI,ZI,ZI,ZI,ZI,ZI,ZI,BL,ZJ,ZJ,ZJ⟩
      have hne0:Nonempty (WS S0):=⟨⟨_,hSc⟩⟩;simp only[List.map_cons,List.map_nil,Ld,Le]
      repeat
       first
       |((with_reducible refine wpSch_lk ?_ ?_);exact rfl;go_big_quiet_step (fail);(try with_reducible refine wpQuiet_nil ?_);(try dsimp only))
       |((with_reducible refine wpSch_act ?_ ?_ (fun K hK=>?_))
         exact rfl;exact rfl;go_simp;(try go_wp2_with(first|(go_at_call 14;first|(have hr1':=hr1;refine(HG2.out _ BL).mono ?_;rintro e w9 ⟨v9,rfl,hr2,hb9⟩;obtain⟨R2,t2,hv9⟩:=own_form hr2;subst hv9;have hr3:=own_below hr1 (show Below wa.heap.size wa w9 from BL);obtain⟨hc9,hf9⟩:=bcell hb9;have hz9:=hb9.size;(try simp at hz9))|(refine(HF2.out _ (HBB.out.trans (Below.mono BL hs5))).mono ?_;rintro e wa ⟨v9,rfl,hr1,hb9⟩;obtain⟨R1,t1,hv9⟩:=own_form hr1;subst hv9;obtain⟨hc9,hf9⟩:=bcell hb9;have hz9:=hb9.size;(try simp at hz9)))|(go_at_call 13;refine(outSame_calls (W:=w9) (Rd.of_own hr3).2.2 (Rd.of_own hr2).2.2 BL ZO).mono ?_;rintro e wz ⟨rfl,hb9⟩;obtain⟨hc9,hf9⟩:=bcell hb9;have hz9:=hb9.size;(try simp at hz9))));refine hK.out _ _ ?hS (fun hSc=>?_)
         case hS=>
          first
          |exact hSc
          |(rw[HS0.out]at hSc ⊢;obtain⟨p0,p1,p2,p3,p4,p5,p6,p7,p8,p9,p10,p11⟩:=hSc;exact⟨ZC0,ZC1,ZC2,ZC3,ZC4,ZC5,ZC6,(by first|exact(hc9 _ _ ZB).trans p7|exact ZC),(by first|exact p8.trans (hb9.mono (by have:=p8.size;first|omega|(simp at this ⊢;omega)))|exact BL),ZT9,(by first|exact Nt p10 hb9.size|exact ZT),(by first|exact Nt p11 hb9.size|exact ZT)⟩)
         clear hK K)
      refine wpSch_nil ?_;rw[HS0.out]at hSc;obtain⟨p0,p1,p2,p3,p4,p5,p6,p7,p8,p9,p10,p11⟩:=hSc;clear hne0 HS0 k0 k1 k2 k3 k4 k5 k6 k7 k8 k9 k10 k11;go_wp2_with fail;go_ret;exact⟨rfl,HBB.out.trans (p8.mono hs5)⟩
 · as_aux_lemma=>
   obtain⟨e0,e1,g0,g1,g2,g3,g4⟩:=hX4.all;clear hr HND HRF;go_wp2_with fail;refine(hlv _ hB4).mono ?_;rintro e w5 ⟨rfl,hb5⟩;go_wp2;go_ret;exact⟨rfl,hB4.trans (hb5.mono hB4.size)⟩
end Go.Proofs.YtkfobmdodegigaaGreatDoor
