/- The walk of the document's Prune: of a typed program what is left without what isn't reached. -/
import Derived.Test.YthhjlbflpjhahaaGreatDoorMemZ
import Derived.Test.YthhjlbflpjhahaaGreatDoorPrJZ
import Derived.Test.YthhjlbflpjhahaaGreatDoorMonLZ
import Derived.Test.YthhjlbflpjhahaaGreatDoorTdMZ
namespace Go.Proofs.YthhjlbflpjhahaaGreatDoor
open Go.RowKit
set_option maxRecDepth 100000
theorem mapr_set'{α:Type}{n i:Nat}{f g:Nat→α}{v:α}(hi:g i=v)(hne:∀j,j≠i→g j=f j):((List.range n).map f).set i v=(List.range n).map g:=by
 apply List.ext_getElem?;intro j;rw[List.getElem?_set]
 by_cases e:i=j
 · subst e
   by_cases hj:i<n
   · simp[hj,hi]
   · simp[hj]
 · simp only[if_neg e,List.getElem?_map]
   by_cases hj:j<n
   · simp[hj,hne j (fun h=>e h.symm)]
   · simp[hj]
def numR(F:PFunc)(i:Nat):List Int:=(List.range F.blocks.length).map fun j=>if j<i then(numP F j:Int) else 0
section
variable {F:PFunc} {i j:Nat}
theorem numR_len:(numR F i).length=F.blocks.length:=by simp[numR]
theorem numR_zero:(numR F 0).map (Value.int .i64)=List.replicate F.blocks.length (.int .i64 0):=by
 unfold numR;rw[List.map_map];refine List.ext_getElem ZS fun i h1 h2=>?_
 simp
theorem numR_at(h:j<F.blocks.length):ith (numR F i) j=if j<i then(numP F j:Int) else 0:=by simp[ith,numR,List.getD,h]
theorem numR_set:(numR F i).set i (numP F i:Int)=numR F (i+1):=
 mapr_set' (if_pos (Nat.lt_succ_self _)) fun j hj=>by
  by_cases h:j<i
  · rw[if_pos h,if_pos ZO]
  · rw[if_neg h,if_neg ZO]
end
theorem spread_below{P:Program}{w w':World}{t ty e:TypeId}{i:TypeInfo}{z:Value}{v':Value}(ht:P.underlying t=some (.slice e))(hi:P.info? e=some i)(hz:i.zero=some z)(N:Nat)(a:Addr)(n c:Nat)(news:List Value)(hl:news.length=n*i.size)(hnews:∀j v,news[j]?=some v→w.cell? (a.add j)=some v)(h0:0<n)(hn:n≤1048576)(hb:i.bytes≤64)
 (hr:(Builtin.append_ #[t,t] ty #[.slice (some ⟨N,0,none⟩) 0 0,.slice (some a) n c]).run P w=.ok v' w'):Below w.heap.size w w':=by
 have h1:=run_append_grow (P:=P) w t ty e i z ht hi hz ⟨N,0,none⟩ 0 0 [] ZS ZS a n c news hl hnews ZO ZO (by
  rw[Nat.zero_add,nextslicecap_zero h0]
  calc n*i.bytes≤1048576*64:=Nat.mul_le_mul hn hb
   _≤281474976710656:=ZD)
 rw[hr]at h1;injection h1 with _ h2
 rw[h2];exact((Br _ _).drew).alloc ZS _
theorem run_spreadI{B N c:Nat}{w:World}{A:Option Addr}{xs:List Int}(hr:Rd B A xs 1 (IntC w))(hN:BoxAt w N #[] 3)(hl:xs.length≤1048576) :
 ∃A' c' w',(Builtin.append_ #[23,23] 23 #[.slice (some ⟨N,0,none⟩) 0 0,.slice A xs.length c]).run Tryz.prog w=.ok (.slice A' xs.length c') w'∧w'.ownsRow N 3 1 (.slice A' xs.length c') xs.length (xs.map (Value.int .i64))∧Below w.heap.size w w':=by
 obtain⟨i,hi,hz,hsz,hb⟩:=info_parts Tryz.info3;have hown:w.ownsRow N 3 1 (.slice (some ⟨N,0,none⟩) 0 0) 0 []:=⟨rfl,.inr ⟨N,0,#[],rfl,Nr _,hN,Nr _,ZD,rfl,rfl⟩⟩;have hlt:=hN.lt
 by_cases h0:xs=[]
 · subst h0
   refine⟨some ⟨N,0,none⟩,0,w,?_,hown,Br _ _⟩;cases A with
   |none=>simp[Builtin.append_,run_underlying Tryz.underlying23,sizeOf,typeInfo,hi,Builtin.lenOf,Builtin.firstCells,storeCells]
   |some a=>
    have hf:=run_firstCells_some (P:=Tryz.prog) w i.size 0 a 0 c [] ZS ZS;simp[Builtin.append_,run_underlying Tryz.underlying23,sizeOf,typeInfo,hi,Builtin.lenOf,hf,storeCells]
 cases A with
 |none=>
  exfalso;cases xs with
  |nil=>exact h0 rfl
  |cons x xs=>
   obtain⟨b,off,h,-⟩:=hr 0 x rfl;cases h
 |some a=>
  have hbytes:(0+xs.length)*8≤140737488355328:=by omega
  have hpos:0<xs.length:=List.length_pos_iff.2 h0;have hcell:∀j u,(xs.map (Value.int .i64))[j]?=some u→w.cell? (a.add j)=some u:=fun j u hj=>by
   have hjl:j<xs.length:=by have:=(List.getElem?_eq_some_iff.1 hj).1;simpa using this
   obtain⟨b,off,ha,-,hc⟩:=hr j _ (ith_get hjl);cases ha;rw[Addr.add_lit];unfold IntC at hc;rw[Nat.mul_one]at hc;rw[hc];rw[List.getElem?_map,ith_get hjl]at hj;exact hj
  obtain⟨v',w',hr2,h2,h3,-,-⟩:=run_append_own_at (P:=Tryz.prog) w N 23 23 3 i _ 1 8 Tryz.underlying23 hi hz hsz hb rfl ZD (.slice (some ⟨N,0,none⟩) 0 0) 0 [] hown a xs.length c (xs.map (Value.int .i64)) ZS
   hcell (fun u hu=>by obtain⟨x,-,rfl⟩:=List.mem_map.1 hu;rfl) (by unfold maxLen;omega) hbytes ZO
  have h4:=spread_below Tryz.underlying23 hi hz N a xs.length c _ (by rw[hsz];simp) hcell hpos hl ZO hr2;rw[Nat.zero_add]at h2;obtain⟨A',c',hv⟩:=own_form h2;subst hv;exact⟨A',c',w',hr2,by simpa using h2,h4⟩
theorem run_spreadV{B N c:Nat}{w:World}{A:Option Addr}{xs:List PVar}(hr:Rd B A xs 2 (VarC w))(hN:BoxAt w N #[] 78)(hl:xs.length≤1048576) :
 ∃A' c' w',(Builtin.append_ #[22,22] 22 #[.slice (some ⟨N,0,none⟩) 0 0,.slice A xs.length c]).run Tryz.prog w=.ok (.slice A' xs.length c') w'∧RRow w' N 78 2 CVar (.slice A' xs.length c') xs∧Below w.heap.size w w':=by
 obtain⟨i,hi,hz,hsz,hb⟩:=info_parts Tryz.info78;have hown:w.ownsRow N 78 2 (.slice (some ⟨N,0,none⟩) 0 0) 0 []:=⟨rfl,.inr ⟨N,0,#[],rfl,Nr _,hN,Nr _,ZD,rfl,rfl⟩⟩;have hlt:=hN.lt
 by_cases h0:xs=[]
 · subst h0
   refine⟨some ⟨N,0,none⟩,0,w,?_,⟨[],rfl,(fun i cs x h=>by simp at h),hown⟩,Br _ _⟩;cases A with
   |none=>simp[Builtin.append_,run_underlying Tryz.underlying22,sizeOf,typeInfo,hi,Builtin.lenOf,Builtin.firstCells,storeCells]
   |some a=>
    have hf:=run_firstCells_some (P:=Tryz.prog) w i.size 0 a 0 c [] ZS ZS;simp[Builtin.append_,run_underlying Tryz.underlying22,sizeOf,typeInfo,hi,Builtin.lenOf,hf,storeCells]
 cases A with
 |none=>
  exfalso;cases xs with
  |nil=>exact h0 rfl
  |cons x xs=>
   obtain⟨b,off,h,-⟩:=hr 0 x rfl;cases h
 |some a=>
  have hpos:0<xs.length:=List.length_pos_iff.2 h0;have hc:∀j u,(xs.map cellsV).flatten[j]?=some u→w.cell? (a.add j)=some u:=by
   intro j u hj;have hjl:=(List.getElem?_eq_some_iff.1 hj).1;rw[cellsV_flat]at hjl;obtain⟨i,k,hk,rfl⟩:∃i k,k<2∧j=i*2+k:=⟨j / 2,j%2,Nat.mod_lt _ ZD,ZO⟩;have hix:xs[i]?=some (xs[i]'(ZO)):=by simp
   obtain⟨b,off,ha,hb,hn,h0,h1⟩:=hr i _ hix;cases ha;rw[flat_at (sz:=2) (i:=i) (j:=k) (cs:=cellsV (xs[i]'(ZO))) (fun c hc=>by simp at hc;obtain⟨x,-,rfl⟩:=hc;rfl) (by rw[List.getElem?_map,hix];rfl) hk]at hj;rw[Addr.add_lit];rcases(show k=0∨k=1 from ZO)with rfl|rfl
   · rw[Nat.add_zero,h0];simpa[cellsV]using hj
   · rw[show off+(i*2+1)=off+i*2+1 from ZO,h1];simpa[cellsV]using hj
  have h1:∀u∈(xs.map cellsV).flatten,u.oneCell'=true:=by
   intro u hu;obtain⟨c,hc,hu⟩:=List.mem_flatten.1 hu;obtain⟨x,-,rfl⟩:=List.mem_map.1 hc;simp[cellsV]at hu;rcases hu with rfl|rfl<;>rfl
  have hbv:∀(i:Nat) cs x,(xs.map cellsV)[i]?=some cs→xs[i]?=some x→cs.length=2∧CVar cs x:=by
   intro i cs x h1 h2;obtain⟨b,off,ha,hb,hn,-⟩:=hr i x h2;simp[h2]at h1;subst h1;exact⟨rfl,hn,rfl⟩
  obtain⟨v',w',hr2,h2,h3,-,-⟩:=run_append_own_at (P:=Tryz.prog) w N 22 22 78 i _ 2 24 Tryz.underlying22 hi hz hsz hb rfl ZD (.slice (some ⟨N,0,none⟩) 0 0) 0 [] hown a xs.length c (xs.map cellsV).flatten cellsV_flat hc h1 (by unfold maxLen;omega) ZO ZO;have h4:=spread_below Tryz.underlying22 hi hz N a xs.length c _ (by rw[hsz];exact cellsV_flat) hc hpos hl ZO hr2;rw[Nat.zero_add,List.nil_append]at h2;obtain⟨A',c',hv⟩:=own_form h2;subst hv;exact⟨A',c',w',hr2,⟨_,ZS,hbv,h2⟩,h4⟩
theorem Two.below{w w':World}{B:Nat}{v1 v2:Value}{xs ys:List Int}(h:Two w B v1 xs v2 ys)(hb:Below w.heap.size w w'):Two w' B v1 xs v2 ys:=⟨own_below h.1 hb,own_below h.2.1 hb,h.2.2⟩
theorem wpList_two{ops:Array Oper}{rest:List Oper}{w:World}{B N:Nat}{v1 v2:Value}{xs ys:List Int}{x:Int}{o:Oper}{a:Act}{Q:Exit→Act→World→Prop}(hgd:o.guard=none)(s z:Operand)(ho:o.op=.call { callee:=.builtin .append,args:=#[s,z],argTypes:=#[23,23] })(hty:o.type=23)
 (hs:a.eval s=v1) (hz:a.eval z=.slice (some ⟨N,0,none⟩) 1 1) (h:Two w B v1 xs v2 ys) (hc:w.cell? ⟨N,0,none⟩=some (.int .i64 x)) (hn:xs.length<1048576) (hB:B≤w.heap.size)
 (hK:∀A c w',Two w' B (.slice A (xs.length+1) c) (xs++[x]) v2 ys→w.grownBy w' v1.ownBlock→Below B w w'→wpList Tryz.prog ops Q rest (a.put o.dst (.slice A (xs.length+1) c)) w'):wpList Tryz.prog ops Q (o::rest) a w:=
 wpList_plain hgd fun _ hK2=>wp_two s z ho hty hs hz h hc hn hB fun A c w' h1 h2 h3=>hK2 _ _ (hK A c w' h1 h2 h3)
theorem wpList_append_run'{P:Program}{ops:Array Oper}{rest:List Oper}{o:Oper}{a:Act}{w w':World}{Q:Exit→Act→World→Prop}(hgd:o.guard=none)(s x:Operand)(t:TypeId)(ho:o.op=.call { callee:=.builtin .append,args:=#[s,x],argTypes:=#[t,t] }){u y v:Value}(hs:a.eval s=u)(hx:a.eval x=y)
 (hrun:(Builtin.append_ #[t,t] o.type #[u,y]).run P w=.ok v w') (h:wpList P ops Q rest (a.put o.dst v) w'):wpList P ops Q (o::rest) a w:=
 wpList_plain hgd fun _ hK=>wp_append_run s x t ho hs hx hrun (hK _ _ h)
set_option maxHeartbeats 16000000 in
theorem refPruneT_calls{W w:World}{fv:Value}{F:PFunc}(hF:FnV W W.heap.size fv F)(hW:Below W.heap.size W w)(hN:Bnd F)(hT:typedP F=true) :
 Calls Tryz.prog 44 #[fv] w fun e w'=>∃gv,e=.returned gv∧FnT w' gv (prF F)∧Below w.heap.size w w':=by
 have hWs:=hW.size;obtain⟨n1,n2⟩:=shaped_count (typed_shaped hT);have hrc:=fun(w':World) (h:Below W.heap.size W w')=>reached_calls hF h n1 n2 (-1)
 rw[← reach_eq hT]at hrc;have HT:=Lh hT;have HN:=Lh hN;have HF:=Lh hF;obtain⟨A0,c0,A1,c1,A2,c2,rfl,l0,l1,l2,-,-,-,r0,r1,r2⟩:=id hF.open_;unfold Len at *;obtain⟨w3,hw3⟩:∃w3:World,w3=(w.alloc (.cells #[.slice A0 F.vars.length c0,.slice A1 F.params.length c1,.slice A2 F.blocks.length c2] 26)).alloc (.cells #[.slice none 0 0,.slice none 0 0,.slice none 0 0] 26):=⟨_,rfl⟩;have hb3:Below w.heap.size w w3:=by rw[hw3];exact BL
 have hs3:w3.heap.size=w.heap.size+2:=by rw[hw3];simp
 have x0:BoxAt w3 w.heap.size #[.slice A0 F.vars.length c0,.slice A1 F.params.length c1,.slice A2 F.blocks.length c2] 26:=by rw[hw3];exact(BoxAt.new _ _ _).alloc _
 have x1:BoxAt w3 (w.heap.size+1) #[.slice none 0 0,.slice none 0 0,.slice none 0 0] 26:=by
  rw[hw3];have:=BoxAt.new (w.alloc (.cells #[.slice A0 F.vars.length c0,.slice A1 F.params.length c1,.slice A2 F.blocks.length c2] 26)) #[.slice none 0 0,.slice none 0 0,.slice none 0 0] 26;simpa using this
 have hW3:=hW.trans (hb3.mono hWs);obtain⟨ib,hib,hz0,hz1,hz2⟩:=info_parts Tryz.info3;clear hT hF hN;go_enter Tryz.func44,Tryz.ntmps44
 go_upto_region 1 with fail
 rw[← hw3];clear hw3;have q0:=x0.cell 0;have q1:=x0.cell 1;have q2:=x0.cell 2;have ql:=x0.lt;simp at q0 q1 q2
 go_upto_region 2 with(go_at_call 72;refine(hrc _ hW3).mono ?_;rintro e wA ⟨gt,rfl,hot,hbA⟩)
 have y0:=x0.below hbA x0.lt;clear q0 q1 q2 ql;have q2:=y0.cell 2;have ql:=y0.lt;simp at q2;have hgt:=(hot.lt gt rfl).2;have hct:∀i,i<F.blocks.length→wA.cell? ⟨gt,i,none⟩=some (.bool (thB F i)):=fun i hi=>own_bool hot hi
 have HOT:=Lh hot;clear hot hrc;go_wp2_with(at_make;refine wpList_make_full _ rfl _ _ 23 rfl wA.heap.size 3 ib _ 1 Tryz.underlying23 hib hz0 hz1 _ _ _ _ _ rfl rfl rfl rfl (by rw[hz2];omega) (by unfold maxLen;omega) (Nr _) ?_;intro w1 hs1 hg1);have hb1:Below wA.heap.size wA w1:=(Br _ _).grown hg1 (Nr _) (fun k hk=>by cases hk);have ho1:w1.ownsRow wA.heap.size 3 1 (.slice (some ⟨wA.heap.size,0,none⟩) F.blocks.length F.blocks.length) F.blocks.length ((numR F 0).map (Value.int .i64)):=by
  rw[numR_zero];simpa[Value.cells,toList_madeCells_one]using hs1
 clear hs1 hg1 q2 ql y0
 go_loopw[5,26] (fun s5 s26 wr=>∃i:Nat,s5=.int .i64 (numP F i)∧s26=.int .i64 i∧i≤F.blocks.length∧wr.ownsRow wA.heap.size 3 1 (.slice (some ⟨wA.heap.size,0,none⟩) F.blocks.length F.blocks.length) F.blocks.length ((numR F i).map (Value.int .i64))∧Below wA.heap.size wA wr) (fun _ s _=>F.blocks.length-(intOf s).toNat)
 case atStart=>exact⟨0,rfl,rfl,Nz _,ho1,hb1⟩
 case round=>as_aux_lemma=>
  clear ho1 hb1;obtain⟨i,rfl,rfl,hi,ho,hb⟩:=hrel
  by_cases hlt:i<F.blocks.length
  · have hcell:=ho.cellAt i ZO
    have hfz:=ho.frozenAt i;have hgl:=(ho.lt _ rfl).2;have hct9:=(hb.cell (p:=⟨gt,i,none⟩) hgt).trans (hct i hlt);have hgt9:=Nt hgt hb.size;have hnp:=numP_le (F:=F) i;have hne:gt≠wA.heap.size:=by omega
    have hce:((numR F i).map (Value.int .i64))[i]?=some (.int .i64 0):=by rw[List.getElem?_map,ith_get (by rw[numR_len];exact hlt),numR_at hlt,if_neg (Nat.lt_irrefl _)];rfl
    rw[hce]at hcell;have HE:=Lh (show((numR F i).map (Value.int .i64)).set i (.int .i64 (numP F i))=(numR F (i+1)).map (Value.int .i64) by rw[← numR_set,List.map_set]);clear hct hce;cases hth:thB F i
    · rw[hth]at hct9
      have HNP:=Lh (numP_no hth);clear hth;go_wp2;go_roundw
      case rel=>exact⟨i+1,by rw[HNP.out],ZN,hlt,by rw[← HE.out];exact(ho.stored i _).1,hb.setCell (Nr _) _⟩
      case measure=>simp[intOf];omega
    · rw[hth]at hct9
      have HNP:=Lh (numP_yes hth);clear hth;go_wp2;go_roundw
      case rel=>exact⟨i+1,by rw[HNP.out];go_num,ZN,hlt,by rw[← HE.out];exact(ho.stored i _).1,hb.setCell (Nr _) _⟩
      case measure=>simp[intOf];omega
  · obtain rfl:i=F.blocks.length:=by omega
    have hnr:=(Rd.of_own ho).2.2;have hgn:=(ho.lt _ rfl).2;have hBr:Below w3.heap.size w3 wr:=hbA.trans (hb.mono hbA.size);have hWr:Below W.heap.size W wr:=hW3.trans (hBr.mono hW3.size);have HB0:=Lh (show Below w.heap.size w wr from hb3.trans (hBr.mono hb3.size));have hctN:∀i,i<F.blocks.length→wr.cell? ⟨gt,i,none⟩=some (.bool (thB F i)):=fun i hi=>(hb.cell (p:=⟨gt,i,none⟩) hgt).trans (hct i hi)
    have hgtN:=Nt hgt hb.size
    have hnum:=Lh (fun(w':World) (h:Below wr.heap.size wr w') (f:Nat) (hf:f<F.blocks.length)=>show w'.cell? ⟨wA.heap.size,f,none⟩=some (.int .i64 (numP F f:Int))from by
     rw[h.cell (p:=⟨wA.heap.size,f,none⟩) (ho.lt _ rfl).2,ho.cellAt f ZO,List.getElem?_map,ith_get (by rw[numR_len];exact hf),numR_at hf,if_pos hf]
     rfl)
    obtain⟨wN,rfl⟩:∃wN:World,wN=wr:=⟨_,rfl⟩;have y0:=x0.below hBr x0.lt;have y1:=x1.below hBr x1.lt;have hN2:w.heap.size+2≤wN.heap.size:=by have:=hBr.size;omega
    have b0:=HN.out.vars;have b1:=HN.out.params;have f0:=y0.cell 0;have f1:=y0.cell 1;simp at f0 f1;clear hi hlt ho hb hct hgt;go_wp2_with fail;have hlN:w.heap.size<wN.heap.size:=by omega
    refine wp_region_monoL [40,41,42,43,44,45,46,47,48,7] (fun i w' v'=>(([fun w' v'=>∃N,v'=.slice (some ⟨N,0,none⟩) 0 0∧wN.heap.size≤N∧BoxAt w' N #[] 78,fun _ v'=>v'=.pointer (some ⟨w.heap.size,0,none⟩),fun _ v'=>v'=.slice A0 F.vars.length c0,fun w' v'=>∃A c,v'=.slice A F.vars.length c∧RRow w' wN.heap.size 78 2 CVar (.slice A F.vars.length c) F.vars,fun w' v'=>∃N,v'=.slice (some ⟨N,0,none⟩) 0 0∧wN.heap.size≤N∧BoxAt w' N #[] 3,fun _ v'=>v'=.pointer (some ⟨w.heap.size,1,none⟩),fun _ v'=>v'=.slice A1 F.params.length c1,fun w' v'=>∃A c,v'=.slice A F.params.length c∧w'.ownsRow wN.heap.size 3 1 (.slice A F.params.length c) F.params.length (F.params.map (Value.int .i64)),fun w' v'=>∃A c A' c',v'=.agg #[.slice A F.vars.length c,.slice A' F.params.length c',.slice none 0 0]∧RRow w' wN.heap.size 78 2 CVar (.slice A F.vars.length c) F.vars∧w'.ownsRow wN.heap.size 3 1 (.slice A' F.params.length c') F.params.length (F.params.map (Value.int .i64)),fun w' v'=>∃g,v'=.pointer (some ⟨g,0,none⟩)∧wN.heap.size≤g∧BoxAt w' g #[.slice none 0 0,.slice none 0 0,.slice none 0 0] 26]:List (World→Value→Prop)).getD i (fun _ _=>True)) w' v') ZK ZK ZK ZD ZK ZD ?mono ?step ?last
    case mono=>
     intro i w1 w2 v hi hb h
     match i,hi,h with
     |0,_,h=>exact(by obtain⟨N,e1,e2,e3⟩:=h;exact⟨N,e1,e2,e3.below hb e3.lt⟩)
     |1,_,h=>exact h
     |2,_,h=>exact h
     |3,_,h=>exact(by obtain⟨A,c,e1,e2⟩:=h;exact⟨A,c,e1,e2.move hb (fun _ _ h=>h)⟩)
     |4,_,h=>exact(by obtain⟨N,e1,e2,e3⟩:=h;exact⟨N,e1,e2,e3.below hb e3.lt⟩)
     |5,_,h=>exact h
     |6,_,h=>exact h
     |7,_,h=>exact(by obtain⟨A,c,e1,e2⟩:=h;exact⟨A,c,e1,own_below e2 hb⟩)
     |8,_,h=>exact(by obtain⟨A,c,A',c',e1,e2,e3⟩:=h;exact⟨A,c,A',c',e1,e2.move hb (fun _ _ h=>h),own_below e3 hb⟩)
     |9,_,h=>exact(by obtain⟨N,e1,e2,e3⟩:=h;exact⟨N,e1,e2,e3.below hb e3.lt⟩)
     |k+10,hi,_=>exact absurd hi (Nat.not_lt_of_le (Nat.le_add_left _ _))
    case step=>
     intro i o vs w1 ho hi hl hb hp K hK;have hl0:vs.length=10:=hl;clear hl;obtain⟨v0,r0,rfl,hl1⟩:=len_cons (n:=9) hl0;obtain⟨v1,r1,rfl,hl2⟩:=len_cons (n:=8) hl1;obtain⟨v2,r2,rfl,hl3⟩:=len_cons (n:=7) hl2;obtain⟨v3,r3,rfl,hl4⟩:=len_cons (n:=6) hl3;obtain⟨v4,r4,rfl,hl5⟩:=len_cons (n:=5) hl4;obtain⟨v5,r5,rfl,hl6⟩:=len_cons (n:=4) hl5;obtain⟨v6,r6,rfl,hl7⟩:=len_cons (n:=3) hl6;obtain⟨v7,r7,rfl,hl8⟩:=len_cons (n:=2) hl7;obtain⟨v8,r8,rfl,hl9⟩:=len_cons (n:=1) hl8;obtain⟨v9,r9,rfl,hl10⟩:=len_cons (n:=0) hl9;obtain rfl:=List.eq_nil_of_length_eq_zero hl10;clear hl0 hl1 hl2 hl3 hl4 hl5 hl6 hl7 hl8 hl9 hl10
     match i,ho,hi,hp with
     |0,ho,hi,hp=>
      obtain rfl:=Option.some.inj ho;clear hi;clear hp;simp only[putsL,Act.put,La,Lz,Lc];go_simp;refine hK.out (.slice (some ⟨w1.heap.size,0,none⟩) 0 0) _ _ ?_ ((Br _ _).alloc (Nr _) _) (⟨_,rfl,hb.size,BoxAt.new _ _ _⟩);simp only[putsL,Act.put,La,Lz,Lc]
     |1,ho,hi,hp=>
      obtain rfl:=Option.some.inj ho;clear hi;clear hp;simp only[putsL,Act.put,La,Lz,Lc];go_simp
      try go_wp2
      refine hK.out (.pointer (some ⟨w.heap.size,0,none⟩)) _ _ ?_ ZE rfl;simp only[putsL,Act.put,La,Lz,Lc]
     |2,ho,hi,hp=>
      obtain rfl:=Option.some.inj ho;clear hi;have q1:v1=.pointer (some ⟨w.heap.size,0,none⟩):=hp 1 ZK;obtain rfl:=q1;clear hp;simp only[putsL,Act.put,La,Lz,Lc];have z9:=(hb.cell (p:=⟨w.heap.size,0,none⟩) hlN).trans f0;have zl:w.heap.size<w1.heap.size:=Nt hlN hb.size;go_simp
      try go_wp2
      refine hK.out (.slice A0 F.vars.length c0) _ _ ?_ ZE rfl;simp only[putsL,Act.put,La,Lz,Lc]
     |3,ho,hi,hp=>
      obtain rfl:=Option.some.inj ho;clear hi;have q0:∃N,v0=.slice (some ⟨N,0,none⟩) 0 0∧wN.heap.size≤N∧BoxAt w1 N #[] 78:=hp 0 ZK;have q2:v2=.slice A0 F.vars.length c0:=hp 2 ZK;obtain⟨N0,rfl,hN0,bx0⟩:=q0;obtain rfl:=q2;clear hp;simp only[putsL,Act.put,La,Lz,Lc];obtain⟨A9,c9,w9,hr9,hV9,hb9⟩:=run_spreadV (c:=c0) (r0.moveV (hWr.trans (hb.mono hWr.size))) bx0 ZO;refine wp_append_run _ _ _ rfl rfl rfl hr9 ?_;refine hK.out (.slice A9 F.vars.length c9) _ _ ?_ (hb9) (⟨_,_,rfl,hV9.rebase hN0⟩);simp only[putsL,Act.put,La,Lz,Lc]
     |4,ho,hi,hp=>
      obtain rfl:=Option.some.inj ho;clear hi;clear hp;simp only[putsL,Act.put,La,Lz,Lc];go_simp;refine hK.out (.slice (some ⟨w1.heap.size,0,none⟩) 0 0) _ _ ?_ ((Br _ _).alloc (Nr _) _) (⟨_,rfl,hb.size,BoxAt.new _ _ _⟩);simp only[putsL,Act.put,La,Lz,Lc]
     |5,ho,hi,hp=>
      obtain rfl:=Option.some.inj ho;clear hi;clear hp;simp only[putsL,Act.put,La,Lz,Lc];go_simp
      try go_wp2
      refine hK.out (.pointer (some ⟨w.heap.size,1,none⟩)) _ _ ?_ ZE rfl;simp only[putsL,Act.put,La,Lz,Lc]
     |6,ho,hi,hp=>
      obtain rfl:=Option.some.inj ho;clear hi;have q5:v5=.pointer (some ⟨w.heap.size,1,none⟩):=hp 5 ZK;obtain rfl:=q5;clear hp;simp only[putsL,Act.put,La,Lz,Lc];have z9:=(hb.cell (p:=⟨w.heap.size,1,none⟩) hlN).trans f1;have zl:w.heap.size<w1.heap.size:=Nt hlN hb.size;go_simp
      try go_wp2
      refine hK.out (.slice A1 F.params.length c1) _ _ ?_ ZE rfl;simp only[putsL,Act.put,La,Lz,Lc]
     |7,ho,hi,hp=>
      obtain rfl:=Option.some.inj ho;clear hi;have q3:∃A c,v3=.slice A F.vars.length c∧RRow w1 wN.heap.size 78 2 CVar (.slice A F.vars.length c) F.vars:=hp 3 ZK;have q4:∃N,v4=.slice (some ⟨N,0,none⟩) 0 0∧wN.heap.size≤N∧BoxAt w1 N #[] 3:=hp 4 ZK;have q6:v6=.slice A1 F.params.length c1:=hp 6 ZK;obtain⟨A5,c5,rfl,hV5⟩:=q3;obtain⟨N1,rfl,hN1,bx1⟩:=q4;obtain rfl:=q6;clear hp;simp only[putsL,Act.put,La,Lz,Lc];obtain⟨A9,c9,w9,hr9,hI9,hb9⟩:=run_spreadI (c:=c1) (r1.moveB (hWr.trans (hb.mono hWr.size))) bx1 ZO;refine wp_append_run _ _ _ rfl rfl rfl hr9 ?_;refine hK.out (.slice A9 F.params.length c9) _ _ ?_ (hb9) (⟨_,_,rfl,own_rebase hI9 hN1⟩);simp only[putsL,Act.put,La,Lz,Lc]
     |8,ho,hi,hp=>
      obtain rfl:=Option.some.inj ho;clear hi;have q3:∃A c,v3=.slice A F.vars.length c∧RRow w1 wN.heap.size 78 2 CVar (.slice A F.vars.length c) F.vars:=hp 3 ZK;have q7:∃A c,v7=.slice A F.params.length c∧w1.ownsRow wN.heap.size 3 1 (.slice A F.params.length c) F.params.length (F.params.map (Value.int .i64)):=hp 7 ZK;obtain⟨A5,c5,rfl,hV5⟩:=q3;obtain⟨A6,c6,rfl,hI6⟩:=q7;clear hp;simp only[putsL,Act.put,La,Lz,Lc];go_simp;refine hK.out (.agg #[.slice A5 F.vars.length c5,.slice A6 F.params.length c6,.slice none 0 0]) _ _ ?_ (Br _ _) (⟨_,_,_,_,rfl,hV5,hI6⟩);simp only[putsL,Act.put,La,Lz,Lc]
     |9,ho,hi,hp=>
      obtain rfl:=Option.some.inj ho;clear hi;clear hp;simp only[putsL,Act.put,La,Lz,Lc];go_simp;refine hK.out (.pointer (some ⟨w1.heap.size,0,none⟩)) _ _ ?_ ((Br _ _).alloc (Nr _) _) (⟨_,rfl,hb.size,BoxAt.new _ _ _⟩);simp only[putsL,Act.put,La,Lz,Lc]
     |k+10,_,hi,_=>exact absurd hi (Nat.not_lt_of_le (Nat.le_add_left _ _))
    case last=>
     intro vs w1 hl hb1 hp;have hl0:vs.length=10:=hl;clear hl;obtain⟨v0,r0,rfl,hl1⟩:=len_cons (n:=9) hl0;obtain⟨v1,r1,rfl,hl2⟩:=len_cons (n:=8) hl1;obtain⟨v2,r2,rfl,hl3⟩:=len_cons (n:=7) hl2;obtain⟨v3,r3,rfl,hl4⟩:=len_cons (n:=6) hl3;obtain⟨v4,r4,rfl,hl5⟩:=len_cons (n:=5) hl4;obtain⟨v5,r5,rfl,hl6⟩:=len_cons (n:=4) hl5;obtain⟨v6,r6,rfl,hl7⟩:=len_cons (n:=3) hl6;obtain⟨v7,r7,rfl,hl8⟩:=len_cons (n:=2) hl7;obtain⟨v8,r8,rfl,hl9⟩:=len_cons (n:=1) hl8;obtain⟨v9,r9,rfl,hl10⟩:=len_cons (n:=0) hl9;obtain rfl:=List.eq_nil_of_length_eq_zero hl10;clear hl0 hl1 hl2 hl3 hl4 hl5 hl6 hl7 hl8 hl9 hl10;have q0:∃N,v0=.slice (some ⟨N,0,none⟩) 0 0∧wN.heap.size≤N∧BoxAt w1 N #[] 78:=hp 0 (of_decide_eq_true ZK);have q1:v1=.pointer (some ⟨w.heap.size,0,none⟩):=hp 1 (of_decide_eq_true ZK);have q2:v2=.slice A0 F.vars.length c0:=hp 2 (of_decide_eq_true ZK);have q3:∃A c,v3=.slice A F.vars.length c∧RRow w1 wN.heap.size 78 2 CVar (.slice A F.vars.length c) F.vars:=hp 3 (of_decide_eq_true ZK);have q4:∃N,v4=.slice (some ⟨N,0,none⟩) 0 0∧wN.heap.size≤N∧BoxAt w1 N #[] 3:=hp 4 (of_decide_eq_true ZK);have q5:v5=.pointer (some ⟨w.heap.size,1,none⟩):=hp 5 (of_decide_eq_true ZK);have q6:v6=.slice A1 F.params.length c1:=hp 6 (of_decide_eq_true ZK);have q7:∃A c,v7=.slice A F.params.length c∧w1.ownsRow wN.heap.size 3 1 (.slice A F.params.length c) F.params.length (F.params.map (Value.int .i64)):=hp 7 (of_decide_eq_true ZK);have q8:∃A c A' c',v8=.agg #[.slice A F.vars.length c,.slice A' F.params.length c',.slice none 0 0]∧RRow w1 wN.heap.size 78 2 CVar (.slice A F.vars.length c) F.vars∧w1.ownsRow wN.heap.size 3 1 (.slice A' F.params.length c') F.params.length (F.params.map (Value.int .i64)):=hp 8 (of_decide_eq_true ZK);have q9:∃g,v9=.pointer (some ⟨g,0,none⟩)∧wN.heap.size≤g∧BoxAt w1 g #[.slice none 0 0,.slice none 0 0,.slice none 0 0] 26:=hp 9 (of_decide_eq_true ZK);obtain⟨N0,rfl,hN0,bx0⟩:=q0;obtain rfl:=q1;obtain rfl:=q2;obtain⟨A5,c5,rfl,hV5⟩:=q3;obtain⟨N1,rfl,hN1,bx1⟩:=q4;obtain rfl:=q5;obtain rfl:=q6;obtain⟨A6,c6,rfl,hI6⟩:=q7;obtain⟨A7,c7,A8,c8,rfl,hV7,hI8⟩:=q8;obtain⟨g,rfl,hg0,hbx⟩:=q9;clear hp;simp only[putsL,Act.put,La,Lz,Lc];simp only[List.length_cons,List.length_nil,List.drop_succ_cons,List.drop_zero,Nat.zero_add,Nat.reduceAdd];have e0:=hbx.cell 0;have e1:=hbx.cell 1;have e2:=hbx.cell 2;have g0:=hbx.frozen 0;have g1:=hbx.frozen 1;have g2:=hbx.frozen 2;have gl:=hbx.lt;simp at e0 e1 e2
     go_upto_region 11 with fail
     obtain⟨wP,hwP⟩:∃wP:World,wP=((w1.setCell ⟨g,0,none⟩ (.slice A7 F.vars.length c7)).setCell ⟨g,1,none⟩ (.slice A8 F.params.length c8)).setCell ⟨g,2,none⟩ (.slice none 0 0):=⟨_,rfl⟩;have hbP:Below wN.heap.size wN wP:=by rw[hwP];exact((hb1.setCell hg0 _).setCell hg0 _).setCell hg0 _
     have hxP:BoxAt wP g #[.slice A7 F.vars.length c7,.slice A8 F.params.length c8,.slice none 0 0] 26:=by rw[hwP];exact hbx.set3
     have hKP:KT [3,78] w1 wP:=by rw[hwP];exact((KT.refl.setCell hbx ZS _).setCell (hbx.set 0 _) ZS _).setCell ((hbx.set 0 _).set 1 _) ZS _
     have hVP:=hV7.kt hKP ZS (fun _ _ h=>h);have hIP:=own_kt hI8 hKP ZS
     go_loud (rw[← hwP])
     clear hwP hKP hbx hV7 hI8 hV5 hI6 hb1 bx0 bx1 e0 e1 e2 g0 g1 g2 gl hN0 hN1;have hq2:=(hBr.trans (hbP.mono hBr.size)).cell (p:=⟨w.heap.size,2,none⟩) (show w.heap.size<w3.heap.size from ZO);have q2:=(x0.cell 2);simp at q2;rw[q2]at hq2;have hql:w.heap.size<wP.heap.size:=by have:=hbP.size;omega
     go_wp2_with fail;have Hf0:=Lh f0;have Hf1:=Lh f1;have Hf2:=Lh (show wN.cell? ⟨w.heap.size,2,none⟩=some (.slice A2 F.blocks.length c2)from by have:=y0.cell 2;simpa using this);clear hq2 q2 hql f0 f1 y0 y1
     go_loopw[52] (fun s wr=>∃(n:Nat) (vb:Value) (ps:List (PBlock×Value×Value)),s=.int .i64 n∧n≤F.blocks.length∧ps.map Prod.fst=prBlks F n∧BoxAt wr g #[.slice A7 F.vars.length c7,.slice A8 F.params.length c8,vb] 26∧
      RRow wr wN.heap.size 78 2 CVar (.slice A7 F.vars.length c7) F.vars∧wr.ownsRow wN.heap.size 3 1 (.slice A8 F.params.length c8) F.params.length (F.params.map (Value.int .i64))∧
      RRow wr wN.heap.size 62 7 (CBO wr wN.heap.size) vb ps∧Below wN.heap.size wN wr) (fun s _=>F.blocks.length-(intOf s).toNat)
     case atStart=>exact⟨0,_,[],rfl,Nz _,rfl,hxP,hVP,hIP,RRow.nil,hbP⟩
     case round=>as_aux_lemma=>
      clear hxP hVP hIP hbP;obtain⟨n,vb,ps,rfl,hn,hps,hbx,hV,hI,hR,hbc⟩:=hrel;have hB:Below w.heap.size w wr:=HB0.out.trans (hbc.mono ZO);have hWrr:Below W.heap.size W wr:=hWr.trans (hbc.mono hWr.size);obtain⟨Ab,cb,rfl⟩:=hR.form;have hgl:=hbx.lt
      by_cases hlt:n<F.blocks.length
      · obtain⟨bb,off,A3,c3,A4,c4,rfl,hbb,hnz,hy0,hy1,hy2,hy3,hy4,hy5,hy6,l3,l4,k3,k4,r3,r4⟩:=r2.blk hWrr hlt
        have hpn:=(HN.out.parts _ (mem_of_blk hlt));obtain⟨wi,rfl⟩:∃wi:World,wi=wr:=⟨_,rfl⟩;have hct9:=(hbc.cell (p:=⟨gt,n,none⟩) hgtN).trans (hctN n hlt);have hgt9:=Nt hgtN hbc.size;cases hth:thB F n
        ·
         rw[hth]at hct9;have HPB:=Lh (prBlks_no hth);clear hth;go_wp2;go_roundw
         case rel=>
          have hKz:∀o,KT [3,64,67,78,62] wi (wi.alloc o):=fun o=>KT.refl.alloc o
          refine⟨n+1,.slice Ab ps.length cb,ps,ZN,hlt,by rw[HPB.out];exact hps,hbx.alloc _,hV.kt (hKz _) ZS (fun _ _ h=>h),own_kt hI (hKz _) ZS,hR.kt (hKz _) ZS (fun _ _ h=>CBO.kt (hKz _) ZS ZS ZS h),hbc.alloc (by have:=hbc.size;omega) _⟩
         case measure=>simp[intOf];omega
        · rw[hth]at hct9
          have HTH:=Lh hth;clear hth;go_wp2_with fail
          go_loopw[70] (fun s wr=>∃(k:Nat) (vph:Value),s=.int .i64 k∧k≤(F.blk n).phis.length∧BoxAt wr wi.heap.size (bcells F n A3 c3 A4 c4) 62∧
           BoxAt wr (wi.heap.size+1) #[.string (F.blk n).name,vph,.slice none 0 0,.int .i64 (F.blk n).term.kind,.int .i64 (F.blk n).term.var,.int .i64 (F.blk n).term.t0,.int .i64 (F.blk n).term.t1] 62∧
           RRow wr (wi.heap.size+2) 64 3 (CPh wr) vph (((F.blk n).phis.take k).map (prPhi F n))∧Below wi.heap.size wi wr) (fun s _=>(F.blk n).phis.length-(intOf s).toNat)
          case atStart=>
           refine⟨0,.slice none 0 0,rfl,Nz _,?_,?_,RRow.nil,?_⟩
           · exact(BoxAt.new _ _ _).alloc _
           · have h:=BoxAt.new (wi.alloc (.cells (bcells F n A3 c3 A4 c4) 62)) #[.string (F.blk n).name,.slice none 0 0,.slice none 0 0,.int .i64 (F.blk n).term.kind,.int .i64 (F.blk n).term.var,.int .i64 (F.blk n).term.t0,.int .i64 (F.blk n).term.t1] 62
             rw[World.size_alloc]at h;exact h
           · exact((Br _ _).alloc (Nr _) _).alloc ZS _
          case round=>as_aux_lemma=>
           obtain⟨k,vph,rfl,hk,hbB,hbC,hP,hbi⟩:=hrel;have hBr2:Below wN.heap.size wN wr:=hbc.trans (hbi.mono hbc.size);have hWi:Below W.heap.size W wr:=hWr.trans (hBr2.mono hWr.size);obtain⟨Ap,cp,hv⟩:=hP.form;rw[List.length_map,List.length_take,Nat.min_eq_left hk]at hv;subst hv
           by_cases hkl:k<(F.blk n).phis.length
           ·
            obtain⟨bp,op,A5,c5,A6,c6,rfl,hbp,hp0,hp1,hp2,l5,l6,k5,k6,r5,r6⟩:=r3.phi hWi hkl;have hpl:=HN.out.pairs _ (mem_of_blk hlt) _ (mem_of_Phi hkl);obtain⟨-,hpal,-,hpf⟩:=phi_facts HT.out hlt (mem_of_Phi hkl);have HPF:=Lh hpf;have HPAL:=Lh hpal;clear hpf hpal;obtain⟨ws,rfl⟩:∃ws:World,ws=wr:=⟨_,rfl⟩;clear hy0 hy1 hy2 hy3 hy4 hy5 hy6 hct9 hgt9;generalize hph:(F.blk n).phi k=ph at *;have HPH:=Lh hph;clear hph;obtain⟨wq,hwq⟩:∃wq:World,wq=(ws.alloc (.cells #[.int .i64 ph.dst,.slice A5 ph.args.length c5,.slice A6 ph.froms.length c6] 64)).alloc (.cells #[.int .i64 ph.dst,.slice none 0 0,.slice none 0 0] 64):=⟨_,rfl⟩;have hbq:Below ws.heap.size ws wq:=by rw[hwq];exact BL
            have hsq:wq.heap.size=ws.heap.size+2:=by rw[hwq];simp
            have z0:BoxAt wq ws.heap.size #[.int .i64 ph.dst,.slice A5 ph.args.length c5,.slice A6 ph.froms.length c6] 64:=by rw[hwq];exact(BoxAt.new _ _ _).alloc _
            have z1:BoxAt wq (ws.heap.size+1) #[.int .i64 ph.dst,.slice none 0 0,.slice none 0 0] 64:=by
             rw[hwq];have:=BoxAt.new (ws.alloc (.cells #[.int .i64 ph.dst,.slice A5 ph.args.length c5,.slice A6 ph.froms.length c6] 64)) #[.int .i64 ph.dst,.slice none 0 0,.slice none 0 0] 64;simpa using this
            go_upto_region 20 with fail
            go_loud (rw[← hwq])
            clear hwq;have q0:=z0.cell 2;have ql:=z0.lt;simp at q0;go_wp2_with fail;clear q0 ql
            go_loopw[80] (fun s wr=>∃(m:Nat) (B1 B2:Option Addr) (d1 d2:Nat),s=.int .i64 m∧m≤ph.froms.length∧Two wr (ws.heap.size+2) (.slice B2 (prN F n ph m).length d2) (prN F n ph m) (.slice B1 (prA F n ph m).length d1) (prA F n ph m)∧
             BoxAt wr (ws.heap.size+1) #[.int .i64 ph.dst,.slice B1 (prA F n ph m).length d1,.slice B2 (prN F n ph m).length d2] 64∧Below (ws.heap.size+1) wq wr) (fun s _=>ph.froms.length-(intOf s).toNat)
            case atStart=>exact⟨0,none,none,0,0,rfl,Nz _,Two.nil,z1,Br _ _⟩
            case round=>as_aux_lemma=>
             obtain⟨m,B1,B2,d1,d2,rfl,hm,hTw,hx,hb⟩:=hrel;have hsz:=hb.size;have hBs:Below ws.heap.size ws wr:=hbq.trans (hb.mono ZO);have hBn:Below wN.heap.size wN wr:=hBr2.trans (hBs.mono hBr2.size);have hWs2:Below W.heap.size W wr:=hWr.trans (hBn.mono hWr.size);have y0:=z0.below hb ZO
             by_cases hml:m<ph.froms.length
             · obtain⟨b7,o7,rfl,hb7,hc7⟩:=r6.int hWs2 hml
               obtain⟨b6,o6,rfl,hb6,hc6⟩:=r5.int hWs2 (i:=m) (by have:=HPAL.out;omega);obtain⟨hf0,hf1⟩:=HPF.out m hml;obtain⟨f,hfk⟩:∃f:Nat,ith ph.froms m=f:=⟨(ith ph.froms m).toNat,ZO⟩;have HFK:=Lh hfk;rw[hfk]at hf1 hc7;have hfl:f<F.blocks.length:=by omega
               have hct8:=(hBn.cell (p:=⟨gt,f,none⟩) hgtN).trans (hctN f hfl);have hgt8:=Nt hgtN hBn.size;have hkf:keepF F n (f:Int)=(leads (F.blk f).term (n:Int)&&thB F f):=by rw[keepF,Int.toNat_natCast]
               have HA0:=Lh (prA_no (F:=F) (i:=n) (x:=ph) (k:=m));have HN0:=Lh (prN_no (F:=F) (i:=n) (x:=ph) (k:=m));have HA1:=Lh (prA_yes (F:=F) (i:=n) (x:=ph) (k:=m));have HN1:=Lh (prN_yes (F:=F) (i:=n) (x:=ph) (k:=m));rw[hfk,hkf]at HA0 HN0 HA1 HN1;have hla:=prA_le (F:=F) (i:=n) (x:=ph) m;have hln:=prN_le (F:=F) (i:=n) (x:=ph) m;have hld:=fun(w':World) (h:Below W.heap.size W w')=>leads_calls HF.out h (f:Int) (n:Int) ZO ZO
               rw[Int.toNat_natCast]at hld;have w0c:=hB;have g0c:=(hBn.cell (p:=⟨w.heap.size,0,none⟩) hlN).trans Hf0.out;have g1c:=(hBn.cell (p:=⟨w.heap.size,1,none⟩) hlN).trans Hf1.out;have g2c:=(hBn.cell (p:=⟨w.heap.size,2,none⟩) hlN).trans Hf2.out;have glc:w.heap.size<wr.heap.size:=by have:=hBn.size;omega
               clear hfk hkf w0c;cases hth:thB F f
               ·
                rw[hth]at hct8;rw[hth,Bool.and_false]at HA0 HN0;have EA:=Lh (HA0.out rfl);have EN':=Lh (HN0.out rfl);clear hth HA0 HN0 HA1 HN1;go_wp2_with fail;go_roundw
                case rel=>exact⟨m+1,B1,B2,d1,d2,ZN,ZO,by rw[EA.out,EN'.out];exact hTw,by rw[EA.out,EN'.out];exact hx,hb⟩
                case measure=>simp[intOf];omega
               · rw[hth]at hct8
                 rw[hth,Bool.and_true]at HA0 HN0 HA1 HN1;clear hth;cases hle:leads (F.blk f).term (n:Int)
                 ·
                  rw[hle]at HA0 HN0 hld;have EA:=Lh (HA0.out rfl);have EN':=Lh (HN0.out rfl);clear hle HA0 HN0 HA1 HN1;go_wp2_with(go_at_call 48;refine(hld _ hWs2).mono ?_;rintro e w8 ⟨rfl,hb8⟩);go_roundw
                  case rel=>
                   have hb8':=hb8;exact⟨m+1,B1,B2,d1,d2,ZN,ZO,by rw[EA.out,EN'.out];exact hTw.below hb8,by rw[EA.out,EN'.out];exact hx.below hb8 hx.lt,hb.trans (hb8.mono ZO)⟩
                  case measure=>simp[intOf];omega
                 ·
                  rw[hle]at HA1 HN1 hld;have EA:=Lh (HA1.out rfl);have EN':=Lh (HN1.out rfl);have hlA:=congrArg List.length EA.out;have hlN:=congrArg List.length EN'.out;rw[List.length_append,List.length_singleton]at hlA hlN;have HLA:=Lh hlA;have HLN:=Lh hlN;rw[Int.toNat_natCast]at EN';clear hlA hlN hle HA0 HN0 HA1 HN1;generalize ith ph.args m=av at *;generalize prN F n ph m=pn at *;generalize prA F n ph m=pa at *
                  go_upto_region 24 with(go_at_call 48;refine(hld _ hWs2).mono ?_;rintro e w8 ⟨rfl,hb8⟩)
                  have hT8:=hTw.below hb8;have hx8:=hx.below hb8 hx.lt;have hy8:=y0.below hb8 y0.lt;have h8l:=hx8.lt;have h8m:ws.heap.size<w8.heap.size:=by omega
                  have x81:=hx8.cell 1;have y81:=hy8.cell 1;simp at x81 y81;have b6l:=Nt hb6 hb8.size;have x86:=(hb8.cell (p:=⟨b6,o6+m,none⟩) hb6).trans hc6;have HB8:=Lh hb8;have hmA:m<ph.args.length:=by have:=HPAL.out;omega
                  clear hx hTw hld hct8 hgt8 g0c g1c g2c glc hc7 hc6 hb8;go_wp2_with fail;refine wp_region_monoL [95,96,97,98,99,100,101,102] (fun i w' v'=>(([fun _ v'=>v'=.pointer (some ⟨ws.heap.size+1,1,none⟩),fun _ v'=>v'=.slice B1 pa.length d1,fun _ v'=>v'=.pointer (some ⟨ws.heap.size,1,none⟩),fun _ v'=>v'=.slice (some ⟨b6,o6,none⟩) ph.args.length c5,fun _ v'=>v'=.int .i64 (m:Int),fun _ v'=>v'=.pointer (some ⟨b6,o6+m,none⟩),fun _ v'=>v'=.int .i64 av,fun w' v'=>∃N,v'=.slice (some ⟨N,0,none⟩) 1 1∧N<w'.heap.size∧w'.cell? ⟨N,0,none⟩=some (.int .i64 av)]:List (World→Value→Prop)).getD i (fun _ _=>True)) w' v') ZK ZK ZK ZD ZK ZD ?mono ?step ?last
                  case mono=>
                   intro i w1 w2 v hi hb h
                   match i,hi,h with
                   |0,_,h=>exact h
                   |1,_,h=>exact h
                   |2,_,h=>exact h
                   |3,_,h=>exact h
                   |4,_,h=>exact h
                   |5,_,h=>exact h
                   |6,_,h=>exact h
                   |7,_,h=>exact(by obtain⟨N,e1,e2,e3⟩:=h;exact⟨N,e1,Nt e2 hb.size,(hb.cell (p:=⟨N,0,none⟩) e2).trans e3⟩)
                   |k+8,hi,_=>exact absurd hi (Nat.not_lt_of_le (Nat.le_add_left _ _))
                  case step=>
                   intro i o vs w1 ho hi hl hb hp K hK;have hl0:vs.length=8:=hl;clear hl;obtain⟨v0,r0,rfl,hl1⟩:=len_cons (n:=7) hl0;obtain⟨v1,r1,rfl,hl2⟩:=len_cons (n:=6) hl1;obtain⟨v2,r2,rfl,hl3⟩:=len_cons (n:=5) hl2;obtain⟨v3,r3,rfl,hl4⟩:=len_cons (n:=4) hl3;obtain⟨v4,r4,rfl,hl5⟩:=len_cons (n:=3) hl4;obtain⟨v5,r5,rfl,hl6⟩:=len_cons (n:=2) hl5;obtain⟨v6,r6,rfl,hl7⟩:=len_cons (n:=1) hl6;obtain⟨v7,r7,rfl,hl8⟩:=len_cons (n:=0) hl7;obtain rfl:=List.eq_nil_of_length_eq_zero hl8;clear hl0 hl1 hl2 hl3 hl4 hl5 hl6 hl7 hl8
                   match i,ho,hi,hp with
                   |0,ho,hi,hp=>
                    obtain rfl:=Option.some.inj ho;clear hi;clear hp;simp only[putsL,Act.put,La,Lz,Lc];go_simp
                    try go_wp2
                    refine hK.out (.pointer (some ⟨ws.heap.size+1,1,none⟩)) _ _ ?_ ZE rfl;simp only[putsL,Act.put,La,Lz,Lc]
                   |1,ho,hi,hp=>
                    obtain rfl:=Option.some.inj ho;clear hi;have q0:v0=.pointer (some ⟨ws.heap.size+1,1,none⟩):=hp 0 ZK;obtain rfl:=q0;clear hp;simp only[putsL,Act.put,La,Lz,Lc];have z9:=(hb.cell (p:=⟨ws.heap.size+1,1,none⟩) h8l).trans x81;have zl:ws.heap.size+1<w1.heap.size:=Nt h8l hb.size;go_simp
                    try go_wp2
                    refine hK.out (.slice B1 pa.length d1) _ _ ?_ ZE rfl;simp only[putsL,Act.put,La,Lz,Lc]
                   |2,ho,hi,hp=>
                    obtain rfl:=Option.some.inj ho;clear hi;clear hp;simp only[putsL,Act.put,La,Lz,Lc];go_simp
                    try go_wp2
                    refine hK.out (.pointer (some ⟨ws.heap.size,1,none⟩)) _ _ ?_ ZE rfl;simp only[putsL,Act.put,La,Lz,Lc]
                   |3,ho,hi,hp=>
                    obtain rfl:=Option.some.inj ho;clear hi;have q2:v2=.pointer (some ⟨ws.heap.size,1,none⟩):=hp 2 ZK;obtain rfl:=q2;clear hp;simp only[putsL,Act.put,La,Lz,Lc];have z9:=(hb.cell (p:=⟨ws.heap.size,1,none⟩) h8m).trans y81;have zl:ws.heap.size<w1.heap.size:=Nt h8m hb.size;go_simp
                    try go_wp2
                    refine hK.out (.slice (some ⟨b6,o6,none⟩) ph.args.length c5) _ _ ?_ ZE rfl;simp only[putsL,Act.put,La,Lz,Lc]
                   |4,ho,hi,hp=>
                    obtain rfl:=Option.some.inj ho;clear hi;clear hp;simp only[putsL,Act.put,La,Lz,Lc];go_simp
                    try go_wp2
                    refine hK.out (.int .i64 (m:Int)) _ _ ?_ ZE rfl;simp only[putsL,Act.put,La,Lz,Lc]
                   |5,ho,hi,hp=>
                    obtain rfl:=Option.some.inj ho;clear hi;have q3:v3=.slice (some ⟨b6,o6,none⟩) ph.args.length c5:=hp 3 ZK;have q4:v4=.int .i64 (m:Int):=hp 4 ZK;obtain rfl:=q3;obtain rfl:=q4;clear hp;simp only[putsL,Act.put,La,Lz,Lc];go_simp
                    try go_wp2
                    refine hK.out (.pointer (some ⟨b6,o6+m,none⟩)) _ _ ?_ ZE rfl;simp only[putsL,Act.put,La,Lz,Lc]
                   |6,ho,hi,hp=>
                    obtain rfl:=Option.some.inj ho;clear hi;have q5:v5=.pointer (some ⟨b6,o6+m,none⟩):=hp 5 ZK;obtain rfl:=q5;clear hp;simp only[putsL,Act.put,La,Lz,Lc];have z9:=(hb.cell (p:=⟨b6,o6+m,none⟩) b6l).trans x86;have zl:b6<w1.heap.size:=Nt b6l hb.size;go_simp
                    try go_wp2
                    refine hK.out (.int .i64 av) _ _ ?_ ZE rfl;simp only[putsL,Act.put,La,Lz,Lc]
                   |7,ho,hi,hp=>
                    obtain rfl:=Option.some.inj ho;clear hi;have q6:v6=.int .i64 av:=hp 6 ZK;obtain rfl:=q6;clear hp;simp only[putsL,Act.put,La,Lz,Lc];go_simp;refine hK.out (.slice (some ⟨w1.heap.size,0,none⟩) 1 1) _ _ ?_ ((Br _ _).alloc (Nr _) _) (⟨_,rfl,ZS,by rw[(BoxAt.new _ _ _).cell];rfl⟩);simp only[putsL,Act.put,La,Lz,Lc]
                   |k+8,_,hi,_=>exact absurd hi (Nat.not_lt_of_le (Nat.le_add_left _ _))
                  case last=>
                   intro vs w1 hl hb1 hp;have hl0:vs.length=8:=hl;clear hl;obtain⟨v0,r0,rfl,hl1⟩:=len_cons (n:=7) hl0;obtain⟨v1,r1,rfl,hl2⟩:=len_cons (n:=6) hl1;obtain⟨v2,r2,rfl,hl3⟩:=len_cons (n:=5) hl2;obtain⟨v3,r3,rfl,hl4⟩:=len_cons (n:=4) hl3;obtain⟨v4,r4,rfl,hl5⟩:=len_cons (n:=3) hl4;obtain⟨v5,r5,rfl,hl6⟩:=len_cons (n:=2) hl5;obtain⟨v6,r6,rfl,hl7⟩:=len_cons (n:=1) hl6;obtain⟨v7,r7,rfl,hl8⟩:=len_cons (n:=0) hl7;obtain rfl:=List.eq_nil_of_length_eq_zero hl8;clear hl0 hl1 hl2 hl3 hl4 hl5 hl6 hl7 hl8;have q0:v0=.pointer (some ⟨ws.heap.size+1,1,none⟩):=hp 0 (of_decide_eq_true ZK);have q1:v1=.slice B1 pa.length d1:=hp 1 (of_decide_eq_true ZK);have q2:v2=.pointer (some ⟨ws.heap.size,1,none⟩):=hp 2 (of_decide_eq_true ZK);have q3:v3=.slice (some ⟨b6,o6,none⟩) ph.args.length c5:=hp 3 (of_decide_eq_true ZK);have q4:v4=.int .i64 (m:Int):=hp 4 (of_decide_eq_true ZK);have q5:v5=.pointer (some ⟨b6,o6+m,none⟩):=hp 5 (of_decide_eq_true ZK);have q6:v6=.int .i64 av:=hp 6 (of_decide_eq_true ZK);have q7:∃N,v7=.slice (some ⟨N,0,none⟩) 1 1∧N<w1.heap.size∧w1.cell? ⟨N,0,none⟩=some (.int .i64 av):=hp 7 (of_decide_eq_true ZK);obtain rfl:=q0;obtain rfl:=q1;obtain rfl:=q2;obtain rfl:=q3;obtain rfl:=q4;obtain rfl:=q5;obtain rfl:=q6;obtain⟨N8,rfl,hN8,hcN⟩:=q7;clear hp;simp only[putsL,Act.put,La,Lz,Lc];simp only[List.length_cons,List.length_nil,List.drop_succ_cons,List.drop_zero,Nat.zero_add,Nat.reduceAdd];have hT1:=hT8.below hb1;have hx1:=hx8.below hb1 h8l;have hy1:=hy8.below hb1 h8m;have hz1:=hb1.size
                   go_wp2_with(
                    at_builtin;refine wpList_two rfl _ _ rfl rfl rfl rfl hT1.swap hcN ZO ZO ?_
                    intro A9 c9 w9 hT9 hG9 hb9;have hz9:=hb9.size;have hx9:=hx1.below hb9 ZO;have hy9:=hy1.below hb9 ZO;have e1:=hx9.cell 1;have f9:=hx9.frozen 1;have l9:=hx9.lt
                    simp at e1)
                   clear hG9 e1 f9 l9;obtain⟨wT,hwT⟩:∃wT:World,wT=w9.setCell ⟨ws.heap.size+1,1,none⟩ (.slice A9 (pa.length+1) c9):=⟨_,rfl⟩;have hxT:BoxAt wT (ws.heap.size+1) #[.int .i64 ph.dst,.slice A9 (pa.length+1) c9,.slice B2 pn.length d2] 64:=by rw[hwT];simpa using hx9.set 1 (.slice A9 (pa.length+1) c9)
                   have hTT:Two wT (ws.heap.size+2) (.slice A9 (pa.length+1) c9) (pa++[av]) (.slice B2 pn.length d2) pn:=by rw[hwT];exact hT9.set ZS _
                   have hBT:Below (ws.heap.size+1) wr wT:=by rw[hwT];exact((HB8.out.mono ZO).trans ((hb1.mono ZO).trans (hb9.mono ZO))).setCell ZS _
                   have hzT:=hBT.size
                   go_loud (rw[← hwT])
                   clear hwT hT9 hx9 hy9 hb9 hb1 hT1 hx1 hy1 hT8 hx8 hy8 x81 y81 x86 hcN hN8;have hBTn:Below wN.heap.size wN wT:=hBn.trans (hBT.mono (by have:=hBr2.size;omega));have hcf:=hnum.out wT hBTn f hfl;have hcl:wA.heap.size<wT.heap.size:=by have:=hBTn.size;omega
                   have hT2:=hxT.cell 2;have hTl:=hxT.lt;simp at hT2;refine wp_region_monoL [105,106,107,108,109,110,111] (fun i w' v'=>(([fun _ v'=>v'=.pointer (some ⟨ws.heap.size+1,2,none⟩),fun _ v'=>v'=.slice B2 pn.length d2,fun _ v'=>v'=.slice (some ⟨wA.heap.size,0,none⟩) F.blocks.length F.blocks.length,fun _ v'=>v'=.int .i64 (f:Int),fun _ v'=>v'=.pointer (some ⟨wA.heap.size,f,none⟩),fun _ v'=>v'=.int .i64 (numP F f:Int),fun w' v'=>∃N,v'=.slice (some ⟨N,0,none⟩) 1 1∧N<w'.heap.size∧w'.cell? ⟨N,0,none⟩=some (.int .i64 (numP F f:Int))]:List (World→Value→Prop)).getD i (fun _ _=>True)) w' v') ZK ZK ZK ZD ZK ZD ?mono ?step ?last
                   case mono=>
                    intro i w1 w2 v hi hb h
                    match i,hi,h with
                    |0,_,h=>exact h
                    |1,_,h=>exact h
                    |2,_,h=>exact h
                    |3,_,h=>exact h
                    |4,_,h=>exact h
                    |5,_,h=>exact h
                    |6,_,h=>exact(by obtain⟨N,e1,e2,e3⟩:=h;exact⟨N,e1,Nt e2 hb.size,(hb.cell (p:=⟨N,0,none⟩) e2).trans e3⟩)
                    |k+7,hi,_=>exact absurd hi (Nat.not_lt_of_le (Nat.le_add_left _ _))
                   case step=>
                    intro i o vs w1 ho hi hl hb hp K hK;have hl0:vs.length=7:=hl;clear hl;obtain⟨v0,r0,rfl,hl1⟩:=len_cons (n:=6) hl0;obtain⟨v1,r1,rfl,hl2⟩:=len_cons (n:=5) hl1;obtain⟨v2,r2,rfl,hl3⟩:=len_cons (n:=4) hl2;obtain⟨v3,r3,rfl,hl4⟩:=len_cons (n:=3) hl3;obtain⟨v4,r4,rfl,hl5⟩:=len_cons (n:=2) hl4;obtain⟨v5,r5,rfl,hl6⟩:=len_cons (n:=1) hl5;obtain⟨v6,r6,rfl,hl7⟩:=len_cons (n:=0) hl6;obtain rfl:=List.eq_nil_of_length_eq_zero hl7;clear hl0 hl1 hl2 hl3 hl4 hl5 hl6 hl7
                    match i,ho,hi,hp with
                    |0,ho,hi,hp=>
                     obtain rfl:=Option.some.inj ho;clear hi;clear hp;simp only[putsL,Act.put,La,Lz,Lc];go_simp
                     try go_wp2
                     refine hK.out (.pointer (some ⟨ws.heap.size+1,2,none⟩)) _ _ ?_ ZE rfl;simp only[putsL,Act.put,La,Lz,Lc]
                    |1,ho,hi,hp=>
                     obtain rfl:=Option.some.inj ho;clear hi;have q0:v0=.pointer (some ⟨ws.heap.size+1,2,none⟩):=hp 0 ZK;obtain rfl:=q0;clear hp;simp only[putsL,Act.put,La,Lz,Lc];have z9:=(hb.cell (p:=⟨ws.heap.size+1,2,none⟩) hTl).trans hT2;have zl:ws.heap.size+1<w1.heap.size:=Nt hTl hb.size;go_simp
                     try go_wp2
                     refine hK.out (.slice B2 pn.length d2) _ _ ?_ ZE rfl;simp only[putsL,Act.put,La,Lz,Lc]
                    |2,ho,hi,hp=>
                     obtain rfl:=Option.some.inj ho;clear hi;clear hp;simp only[putsL,Act.put,La,Lz,Lc];go_simp
                     try go_wp2
                     refine hK.out (.slice (some ⟨wA.heap.size,0,none⟩) F.blocks.length F.blocks.length) _ _ ?_ ZE rfl;simp only[putsL,Act.put,La,Lz,Lc]
                    |3,ho,hi,hp=>
                     obtain rfl:=Option.some.inj ho;clear hi;clear hp;simp only[putsL,Act.put,La,Lz,Lc];go_simp
                     try go_wp2
                     refine hK.out (.int .i64 (f:Int)) _ _ ?_ ZE rfl;simp only[putsL,Act.put,La,Lz,Lc]
                    |4,ho,hi,hp=>
                     obtain rfl:=Option.some.inj ho;clear hi;have q2:v2=.slice (some ⟨wA.heap.size,0,none⟩) F.blocks.length F.blocks.length:=hp 2 ZK;have q3:v3=.int .i64 (f:Int):=hp 3 ZK;obtain rfl:=q2;obtain rfl:=q3;clear hp;simp only[putsL,Act.put,La,Lz,Lc];go_simp
                     try go_wp2
                     refine hK.out (.pointer (some ⟨wA.heap.size,f,none⟩)) _ _ ?_ ZE rfl;simp only[putsL,Act.put,La,Lz,Lc]
                    |5,ho,hi,hp=>
                     obtain rfl:=Option.some.inj ho;clear hi;have q4:v4=.pointer (some ⟨wA.heap.size,f,none⟩):=hp 4 ZK;obtain rfl:=q4;clear hp;simp only[putsL,Act.put,La,Lz,Lc];have z9:=(hb.cell (p:=⟨wA.heap.size,f,none⟩) hcl).trans hcf;have zl:wA.heap.size<w1.heap.size:=Nt hcl hb.size;go_simp
                     try go_wp2
                     refine hK.out (.int .i64 (numP F f:Int)) _ _ ?_ ZE rfl;simp only[putsL,Act.put,La,Lz,Lc]
                    |6,ho,hi,hp=>
                     obtain rfl:=Option.some.inj ho;clear hi;have q5:v5=.int .i64 (numP F f:Int):=hp 5 ZK;obtain rfl:=q5;clear hp;simp only[putsL,Act.put,La,Lz,Lc];go_simp;refine hK.out (.slice (some ⟨w1.heap.size,0,none⟩) 1 1) _ _ ?_ ((Br _ _).alloc (Nr _) _) (⟨_,rfl,ZS,by rw[(BoxAt.new _ _ _).cell];rfl⟩);simp only[putsL,Act.put,La,Lz,Lc]
                    |k+7,_,hi,_=>exact absurd hi (Nat.not_lt_of_le (Nat.le_add_left _ _))
                   case last=>
                    intro vs w1 hl hb1 hp;have hl0:vs.length=7:=hl;clear hl;obtain⟨v0,r0,rfl,hl1⟩:=len_cons (n:=6) hl0;obtain⟨v1,r1,rfl,hl2⟩:=len_cons (n:=5) hl1;obtain⟨v2,r2,rfl,hl3⟩:=len_cons (n:=4) hl2;obtain⟨v3,r3,rfl,hl4⟩:=len_cons (n:=3) hl3;obtain⟨v4,r4,rfl,hl5⟩:=len_cons (n:=2) hl4;obtain⟨v5,r5,rfl,hl6⟩:=len_cons (n:=1) hl5;obtain⟨v6,r6,rfl,hl7⟩:=len_cons (n:=0) hl6;obtain rfl:=List.eq_nil_of_length_eq_zero hl7;clear hl0 hl1 hl2 hl3 hl4 hl5 hl6 hl7;have q0:v0=.pointer (some ⟨ws.heap.size+1,2,none⟩):=hp 0 (of_decide_eq_true ZK);have q1:v1=.slice B2 pn.length d2:=hp 1 (of_decide_eq_true ZK);have q2:v2=.slice (some ⟨wA.heap.size,0,none⟩) F.blocks.length F.blocks.length:=hp 2 (of_decide_eq_true ZK);have q3:v3=.int .i64 (f:Int):=hp 3 (of_decide_eq_true ZK);have q4:v4=.pointer (some ⟨wA.heap.size,f,none⟩):=hp 4 (of_decide_eq_true ZK);have q5:v5=.int .i64 (numP F f:Int):=hp 5 (of_decide_eq_true ZK);have q6:∃N,v6=.slice (some ⟨N,0,none⟩) 1 1∧N<w1.heap.size∧w1.cell? ⟨N,0,none⟩=some (.int .i64 (numP F f:Int)):=hp 6 (of_decide_eq_true ZK);obtain rfl:=q0;obtain rfl:=q1;obtain rfl:=q2;obtain rfl:=q3;obtain rfl:=q4;obtain rfl:=q5;obtain⟨N9,rfl,hN9,hcM⟩:=q6;clear hp;simp only[putsL,Act.put,La,Lz,Lc];simp only[List.length_cons,List.length_nil,List.drop_succ_cons,List.drop_zero,Nat.zero_add,Nat.reduceAdd];have hTq:=hTT.below hb1;have hxq:=hxT.below hb1 hTl;have hz1:=hb1.size
                    go_wp2_with(
                     at_builtin;refine wpList_two rfl _ _ rfl rfl rfl rfl hTq.swap hcM ZO ZO ?_
                     intro A7 c7 w7 hT7 hG7 hb7;have hz7:=hb7.size;have hx7:=hxq.below hb7 ZO;have e1:=hx7.cell 2;have f7:=hx7.frozen 2;have l7:=hx7.lt
                     simp at e1)
                    go_roundw
                    case rel=>
                     have hB7:Below (ws.heap.size+1) wr (w7.setCell ⟨ws.heap.size+1,2,none⟩ (.slice A7 (pn.length+1) c7)):=(hBT.trans ((hb1.mono ZO).trans (hb7.mono ZO))).setCell ZS _;have hxx:BoxAt (w7.setCell ⟨ws.heap.size+1,2,none⟩ (.slice A7 (pn.length+1) c7)) (ws.heap.size+1) #[.int .i64 ph.dst,.slice A9 (pa.length+1) c9,.slice A7 (pn.length+1) c7] 64:=by simpa using hx7.set 2 (.slice A7 (pn.length+1) c7)
                     have hTx:Two (w7.setCell ⟨ws.heap.size+1,2,none⟩ (.slice A7 (pn.length+1) c7)) (ws.heap.size+2) (.slice A7 (pn.length+1) c7) (pn++[(numP F f:Int)]) (.slice A9 (pa.length+1) c9) (pa++[av]):=hT7.set ZS _;refine⟨m+1,A9,A7,c9,c7,ZN,ZO,?_,?_,hb.trans hB7⟩
                     · rw[EA.out,EN'.out,List.length_append,List.length_append]
                       exact hTx
                     · rw[EA.out,EN'.out,List.length_append,List.length_append]
                       exact hxx
                    case measure=>simp[intOf];omega
             ·
              obtain rfl:m=ph.froms.length:=by omega
              have hq0:=hx.cell 0;have hq1:=hx.cell 1;have hq2:=hx.cell 2;have hql:=hx.lt;simp at hq0 hq1 hq2;have hCr:=hbC.below hBs hbC.lt;have hBB:=hbB.below hBs hbB.lt;have d1c:=hCr.cell 1;have dlc:=hCr.lt;simp at d1c;have hK1:KT [3,64] ws wr:=KT.of_below hBs;have hPr:=hP.kt hK1 ZS (fun _ _ h=>h.kt hK1 ZS);have hob:=fun k' (hk':(Value.slice Ap k cp).ownBlock=some k')=>hP.lt hk'
              obtain⟨cells,hO⟩:=hPr.own;rw[List.length_map,List.length_take,Nat.min_eq_left hk]at hO;have hpln:=hpn.1;have X1:=Lh hTw;have X2:=Lh hPr;have X3:=Lh hBs;have X4:=Lh hBB;have X5:=Lh hbi;have X6:=Lh hP;clear hTw hPr hBs hBB hbi hP hBn hWs2 hbq hb
              go_wp2_with(
               at_builtin;go_loud (refine wpList_appendF _ rfl _ _ 55 rfl (wi.heap.size+2) 64 3 56 Tryz.underlying55 Tryz.info64 rfl ZD _ k cells rfl hO _ (by rfl) #[.int .i64 ph.dst,.slice B1 (prA F n ph ph.froms.length).length d1,.slice B2 (prN F n ph ph.froms.length).length d2] rfl rfl (by intro u hu;simp at hu;rcases hu with rfl|rfl|rfl<;>rfl) ZO ZD ZO ?_)
               intro v' w3 hown3 hg3 hfr3;obtain⟨Av,cv,hv3⟩:=own_form hown3;subst hv3;have hgg:(wr.alloc (.cells #[.int .i64 ph.dst,.slice B1 (prA F n ph ph.froms.length).length d1,.slice B2 (prN F n ph ph.froms.length).length d2] 64)).grownBy w3 (Value.slice Ap k cp).ownBlock:=hg3;clear hg3;have hz3:=hgg.size;simp at hz3;have hbC3:=(hCr.alloc (.cells #[.int .i64 ph.dst,.slice B1 (prA F n ph ph.froms.length).length d1,.slice B2 (prN F n ph ph.froms.length).length d2] 64)).grown hgg (fun e=>by have:=(hob _ e).1;omega);have t3:=hbC3.cell 1;simp at t3;have t3f:=hbC3.frozen 1
               have t3l:=hbC3.lt)
              go_roundw
              case rel=>
               have hK3:KT [3] wr (w3.setCell ⟨wi.heap.size+1,1,none⟩ (.slice Av (k+1) cv)):=((KT.refl.alloc _).grown (hO.alloc _) ZS hgg).setCell hbC3 ZS _;have hlk:(((F.blk n).phis.take k).map (prPhi F n)).length=k:=by rw[List.length_map,List.length_take,Nat.min_eq_left hk]
               have hbi3:Below wi.heap.size wi (w3.setCell ⟨wi.heap.size+1,1,none⟩ (.slice Av (k+1) cv)):=((((X5.out.trans (X3.out.mono X5.out.size)).alloc (by have:=X5.out.size;have:=X3.out.size;omega) _).grown hgg ZX (fun k' hk'=>by have:=(hob _ hk').1;omega)).setCell ZS _);refine⟨k+1,.slice Av (k+1) cv,ZN,ZO,?_,?_,?_,hbi3⟩
               · have x1:=X4.out.alloc (.cells #[.int .i64 ph.dst,.slice B1 (prA F n ph ph.froms.length).length d1,.slice B2 (prN F n ph ph.froms.length).length d2] 64)
                 have x2:=x1.grown hgg (fun e=>by have:=(hob _ e).1;omega);exact x2.other (p:=⟨wi.heap.size+1,1,none⟩) ZS (.slice Av (k+1) cv)
               · simpa using hbC3.set 1 (.slice Av (k+1) cv)
               · have hmap:((F.blk n).phis.take (k+1)).map (prPhi F n)=((F.blk n).phis.take k).map (prPhi F n)++[prPhi F n ph]:=by rw[take_phi hkl,HPH.out,List.map_append];rfl
                 rw[hmap];refine RRow.snoc (C:=CPh wr) (cs:=[.int .i64 ph.dst,.slice B1 (prA F n ph ph.froms.length).length d1,.slice B2 (prN F n ph ph.froms.length).length d2]) X2.out (by rw[hlk];exact hO) ?_ rfl (fun _ _ h=>h.kt hK3 ZS) ?_
                 · rw[hlk]
                   exact ownsRow_setCell_other hown3 (fun e=>by have:=(own_lt hown3 e).1;simp at this) _
                 · have hI1:=own_kt X1.out.2.1 hK3 ZS
                   have hI2:=own_kt X1.out.1 hK3 ZS;have hl1:=prA_le (F:=F) (i:=n) (x:=ph) ph.froms.length;have hl2:=prN_le (F:=F) (i:=n) (x:=ph) ph.froms.length;exact⟨_,_,rfl,DInts.of_own hI1 ZO (own_nt hI1 ZS),DInts.of_own hI2 ZO (own_nt hI2 ZS)⟩
              case measure=>simp[intOf];omega
           · obtain rfl:k=(F.blk n).phis.length:=by omega
             rw[List.take_length]at hP;have hc2:=hbB.cell 2;simp[bcells]at hc2;have hbl:=hbB.lt;clear hy0 hy1 hy2 hy3 hy4 hy5 hy6 hk hkl hct9 hgt9 hBr2 hWi;go_wp2_with fail
             go_loopw[125] (fun s wr=>∃(m:Nat) (vin:Value),s=.int .i64 m∧m≤(F.blk n).insts.length∧BoxAt wr wi.heap.size (bcells F n A3 c3 A4 c4) 62∧
              BoxAt wr (wi.heap.size+1) #[.string (F.blk n).name,.slice Ap (F.blk n).phis.length cp,vin,.int .i64 (F.blk n).term.kind,.int .i64 (F.blk n).term.var,.int .i64 (F.blk n).term.t0,.int .i64 (F.blk n).term.t1] 62∧
              RRow wr (wi.heap.size+2) 64 3 (CPh wr) (.slice Ap (F.blk n).phis.length cp) ((F.blk n).phis.map (prPhi F n))∧RRow wr (wi.heap.size+2) 67 4 (CIn wr) vin ((F.blk n).insts.take m)∧Below wi.heap.size wi wr) (fun s _=>(F.blk n).insts.length-(intOf s).toNat)
             case atStart=>exact⟨0,_,rfl,Nz _,hbB,hbC,hP,RRow.nil,hbi⟩
             case round=>as_aux_lemma=>
              clear hbB hbC hP hbi hc2 hbl;obtain⟨m,vin,rfl,hm,hbB,hbC,hP,hJ,hbi⟩:=hrel;have hBr2:Below wN.heap.size wN wr:=hbc.trans (hbi.mono hbc.size);have hWi:Below W.heap.size W wr:=hWr.trans (hBr2.mono hWr.size);obtain⟨Ai,ci,hv⟩:=hJ.form;rw[List.length_take,Nat.min_eq_left hm]at hv;subst hv;have hob:=fun k' (hk':(Value.slice Ai m ci).ownBlock=some k')=>hJ.lt hk'
              by_cases hml:m<(F.blk n).insts.length
              ·
               obtain⟨bx,ox,A5,c5,rfl,hbxl,hx0,hx1,hx2,hx3,l5,k5,r5⟩:=r4.inst hWi hml;have hal:=HN.out.args _ (mem_of_blk hlt) _ (mem_of_Inst hml);obtain⟨ws,rfl⟩:∃ws:World,ws=wr:=⟨_,rfl⟩;generalize hin:(F.blk n).inst m=xi at *;have HIN:=Lh hin;clear hin;have hgC:=hbC.lt;obtain⟨w2,hw2⟩:∃w2:World,w2=(ws.alloc (.cells #[.int .i64 xi.op,.int .i64 xi.dst,.slice A5 xi.args.length c5,.int .i64 xi.num] 67)).alloc (.cells #[] 3):=⟨_,rfl⟩;have hb2:Below ws.heap.size ws w2:=by rw[hw2];exact BL
               have hs2:w2.heap.size=ws.heap.size+2:=by rw[hw2];simp
               have z0:BoxAt w2 ws.heap.size #[.int .i64 xi.op,.int .i64 xi.dst,.slice A5 xi.args.length c5,.int .i64 xi.num] 67:=by rw[hw2];exact(BoxAt.new _ _ _).alloc _
               have z1:BoxAt w2 (ws.heap.size+1) #[] 3:=by
                rw[hw2];have:=BoxAt.new (ws.alloc (.cells #[.int .i64 xi.op,.int .i64 xi.dst,.slice A5 xi.args.length c5,.int .i64 xi.num] 67)) #[] 3;simpa using this
               obtain⟨A7',c7',w7,hr7,hI7,hb7⟩:=run_spreadI (c:=c5) (r5.moveB (hWi.trans (hb2.mono hWi.size))) z1 ZO;have hbX:=z0.below hb7 z0.lt;rw[hw2]at hr7;have x2:=hbX.cell 2;have xf:=hbX.frozen 2;have xl:=hbX.lt;simp at x2;have hB7:Below ws.heap.size ws w7:=hb2.trans (hb7.mono hb2.size);have hz7:=hb7.size;clear hw2 z0 z1
               go_upto_region 33 with(at_builtin;refine wpList_append_run' rfl _ _ 23 rfl rfl rfl hr7 ?_)
               clear hr7;have hbC7:=hbC.below hB7 hgC;have y2:=hbC7.cell 2;have yl:=hbC7.lt;simp at y2;have hbCx:=hbC7.other (p:=⟨ws.heap.size,2,none⟩) ZX (.slice A7' xi.args.length c7');have yx2:=hbCx.cell 2;have hbXx:=hbX.set 2 (.slice A7' xi.args.length c7');have xx0:=hbXx.cell 0;have xx1:=hbXx.cell 1;have xx2:=hbXx.cell 2;have xx3:=hbXx.cell 3;simp at xx0 xx1 xx2 xx3 yx2;have hK7:KT [3,64,67] ws w7:=KT.of_below hB7;have hJ7:=hJ.kt hK7 ZS (fun _ _ h=>h.kt hK7 ZS);obtain⟨cells,hO7⟩:=hJ7.own;rw[List.length_take,Nat.min_eq_left hm]at hO7;have hOx:=ownsRow_setCell_other hO7 (a:=⟨ws.heap.size,2,none⟩) (fun e=>by have:=(hob _ e).2;simp at this) (.slice A7' xi.args.length c7');have hpln:=hpn.2
               go_wp2_with(
                at_builtin;go_loud (refine wpList_appendF _ rfl _ _ 56 rfl (wi.heap.size+2) 67 4 48 Tryz.underlying56 Tryz.info67 rfl ZD _ m cells rfl hOx _ ZS #[.int .i64 xi.op,.int .i64 xi.dst,.slice A7' xi.args.length c7',.int .i64 xi.num] rfl rfl (by intro u hu;simp at hu;rcases hu with rfl|rfl|rfl|rfl<;>rfl) ZO ZD ZX ?_)
                intro v' w3 hown3 hg3 hfr3;obtain⟨Av,cv,hv3⟩:=own_form hown3;subst hv3;have hgg:((w7.setCell ⟨ws.heap.size,2,none⟩ (.slice A7' xi.args.length c7')).alloc (.cells #[.int .i64 xi.op,.int .i64 xi.dst,.slice A7' xi.args.length c7',.int .i64 xi.num] 67)).grownBy w3 (Value.slice Ai m ci).ownBlock:=hg3;clear hg3;have hz3:=hgg.size;simp at hz3;have hbC3:=(hbCx.alloc _).grown hgg (fun e=>by have:=(hob _ e).1;omega);have t3:=hbC3.cell 2;simp at t3;have t3f:=hbC3.frozen 2
                have t3l:=hbC3.lt)
               go_roundw
               case rel=>
                have hlm:((F.blk n).insts.take m).length=m:=by rw[List.length_take,Nat.min_eq_left hm]
                have hKa:KT [3] w7 (w7.setCell ⟨ws.heap.size,2,none⟩ (.slice A7' xi.args.length c7')):=KT.refl.setCell hbX ZS _;have hKb:KT [3] (w7.setCell ⟨ws.heap.size,2,none⟩ (.slice A7' xi.args.length c7')) (w3.setCell ⟨wi.heap.size+1,2,none⟩ (.slice Av (m+1) cv)):=((KT.refl.alloc _).grown (hOx.alloc _) ZS hgg).setCell hbC3 ZS _;have hKf:KT [3,64] ws (w3.setCell ⟨wi.heap.size+1,2,none⟩ (.slice Av (m+1) cv)):=((((KT.of_below hB7).setCell hbX ZS _).alloc _).grown (hOx.alloc _) ZS hgg).setCell hbC3 ZS _;have hbB3:BoxAt (w3.setCell ⟨wi.heap.size+1,2,none⟩ (.slice Av (m+1) cv)) wi.heap.size (bcells F n A3 c3 (some ⟨bx,ox,none⟩) c4) 62:=
                 ((((hbB.below hB7 hbB.lt).other (p:=⟨ws.heap.size,2,none⟩) (by have:=hbB.lt;simp;omega) (.slice A7' xi.args.length c7')).alloc (.cells #[.int .i64 xi.op,.int .i64 xi.dst,.slice A7' xi.args.length c7',.int .i64 xi.num] 67)).grown hgg (fun e=>by have:=(hob _ e).1;omega)).other (p:=⟨wi.heap.size+1,2,none⟩) ZS (.slice Av (m+1) cv)
                refine⟨m+1,.slice Av (m+1) cv,ZN,ZO,hbB3,?_,hP.kt hKf ZS (fun _ _ h=>h.kt hKf ZS),?_,?_⟩
                · simpa using hbC3.set 2 (.slice Av (m+1) cv)
                · rw[take_inst hml,HIN.out]
                  have hJX:=hJ7.turn (w':=w7.setCell ⟨ws.heap.size,2,none⟩ (.slice A7' xi.args.length c7')) (fun k' hk'=>heap_set (by have:=(hob _ hk').2;simp;omega)) (fun _ _ h=>CIn.kt hKa ZS h);refine RRow.snoc (cs:=[.int .i64 xi.op,.int .i64 xi.dst,.slice A7' xi.args.length c7',.int .i64 xi.num]) hJX (by rw[hlm];exact hOx) ?_ rfl (fun _ _ h=>CIn.kt hKb ZS h) ?_
                  · rw[hlm]
                    exact ownsRow_setCell_other hown3 (fun e=>by have:=(own_lt hown3 e).1;simp at this) _
                  · have hI7f:=own_kt hI7 (hKa.trans hKb) ZS
                    exact⟨_,rfl,DInts.of_own hI7f ZO (own_nt hI7f ZS)⟩
                · exact((((hbi.trans (hB7.mono hbi.size)).setCell (p:=⟨ws.heap.size,2,none⟩) ZX _).alloc ZX _).grown hgg ZX (fun k' hk'=>by have:=(hob _ hk').1;omega)).setCell ZS _
               case measure=>simp[intOf];omega
              ·
               obtain rfl:m=(F.blk n).insts.length:=by omega
               rw[List.take_length]at hJ;obtain⟨ws,rfl⟩:∃ws:World,ws=wr:=⟨_,rfl⟩;have hgo:=hbx.below hbi hgl;have HRL:=Lh (fun k (hk:(Value.slice Ab ps.length cb).ownBlock=some k)=>hR.lt hk);have hKr:KT [3,64,67,62,78] wi ws:=KT.of_below hbi;have hRr:=hR.kt hKr ZS (fun _ _ h=>CBO.kt hKr ZS ZS ZS h);have hVr:=hV.kt hKr ZS (fun _ _ h=>h);have hIr:=own_kt hI hKr ZS;have hsh:=(shaped_blk (typed_shaped HT.out) hlt).2.2;have hnumw:=hnum.out ws hBr2;generalize hTm:(F.blk n).term=T at *;have HTM:=Lh hTm;clear hTm;have d3:=hbB.cell 3;have d5:=hbB.cell 5;have d6:=hbB.cell 6;have dl:=hbB.lt;have e5:=hbC.cell 5;have e6:=hbC.cell 6;have g5:=hbC.frozen 5;have g6:=hbC.frozen 6;have gl2:=hbC.lt;have hwA:wA.heap.size<ws.heap.size:=by have:=hBr2.size;omega
               have hwne:wA.heap.size≠wi.heap.size+1:=by have:=hbc.size;omega
               have hwne2:wi.heap.size+1≠wA.heap.size:=fun e=>hwne e.symm
               simp[bcells]at d3 d5 d6 e5 e6;rw[HTM.out]at d3 d5 d6;have key:∃y0 y1:Int,prTerm F T=⟨T.kind,T.var,y0,y1⟩∧((T.kind=0∧y1=T.t1∧∃f:Nat,T.t0=f∧f<F.blocks.length∧y0=(numP F f:Int))∨(T.kind=1∧∃f g:Nat,T.t0=f∧f<F.blocks.length∧y0=(numP F f:Int)∧T.t1=g∧g<F.blocks.length∧y1=(numP F g:Int))∨(T.kind=2∧y0=T.t0∧y1=T.t1)):=by
                unfold termB at hsh;unfold prTerm
                by_cases h0:T.kind=0
                · rw[if_pos h0]at hsh⊢
                  simp only[Bool.and_eq_true]at hsh;have h1:=inB_true hsh.1.1;exact⟨_,_,rfl,.inl ⟨h0,rfl,T.t0.toNat,ZO,ZO,rfl⟩⟩
                · rw[if_neg h0]at hsh⊢
                  by_cases h1:T.kind=1
                  · rw[if_pos h1]at hsh⊢
                    simp only[Bool.and_eq_true]at hsh;have h2:=inB_true hsh.1.2;have h3:=inB_true hsh.2;exact⟨_,_,rfl,.inr (.inl ⟨h1,T.t0.toNat,T.t1.toNat,ZO,ZO,rfl,ZO,ZO,rfl⟩)⟩
                  · rw[if_neg h1]at hsh⊢
                    by_cases h2:T.kind=2
                    · exact⟨_,_,rfl,.inr (.inr ⟨h2,rfl,rfl⟩)⟩
                    · rw[if_neg h2]at hsh
                      cases hsh
               obtain⟨y0,y1,hpt,hkey⟩:=key;have HPT:=Lh hpt;have X1:=Lh hP;have X2:=Lh hJ;have X3:=Lh hbC;have X4:=Lh hbi;have X5:=Lh hRr;have X6:=Lh hVr;have X7:=Lh hIr;have X8:=Lh hgo;have X9:=Lh hps;have X10:=Lh hbc;clear hsh hpt hP hJ hbi hKr hRr hVr hIr hgo hbB hob hV hI hR hps hBr2 hWi hB hWrr;rcases hkey with⟨hk0,hy1,f,hf,hfl,hy0⟩|⟨hk0,f,f',hf,hfl,hy0,hf',hfl',hy1⟩|⟨hk0,hy0,hy1⟩
               rw[hk0]at d3;rw[hf]at d5;have hcf:=hnumw f hfl
               go_upto_region 39 with fail
               obtain⟨wz,hwz⟩:∃wz:World,wz=ws.setCell ⟨wi.heap.size+1,5,none⟩ (.int .i64 (numP F f:Int)):=⟨_,rfl⟩;have hCz:BoxAt wz (wi.heap.size+1) #[.string (F.blk n).name,.slice Ap (F.blk n).phis.length cp,.slice Ai (F.blk n).insts.length ci,.int .i64 T.kind,.int .i64 T.var,.int .i64 y0,.int .i64 y1] 62:=by rw[hwz,hy0,hy1];simpa using X3.out.set 5 (.int .i64 (numP F f:Int))
               have hKz:KT [3,64,67,78] ws wz:=by rw[hwz];exact KT.refl.setCell X3.out ZS _
               have hRz:RRow wz wN.heap.size 62 7 (CBO wz wN.heap.size) (.slice Ab ps.length cb) ps:=X5.out.turn (fun k hk=>by rw[hwz];exact heap_set (fun e=>by have h1:=(HRL.out k hk).2;simp at e;omega)) (fun _ _ h=>CBO.kt hKz ZS ZS ZS h);have hgz:BoxAt wz g #[.slice A7 F.vars.length c7,.slice A8 F.params.length c8,.slice Ab ps.length cb] 26:=by rw[hwz];exact X8.out.other ZX _
               have hbz:Below wi.heap.size wi wz:=by rw[hwz];exact X4.out.setCell ZS _
               go_loud (rw[← hwz])
               clear hwz hnumw d3 d5 d6 e5 e6 g5 g6 hwne hwne2
               rotate_left
               rw[hk0]at d3;rw[hf]at d5;rw[hf']at d6;have hcf:=hnumw f hfl;have hcf':=hnumw f' hfl'
               go_upto_region 39 with fail
               obtain⟨wz,hwz⟩:∃wz:World,wz=(ws.setCell ⟨wi.heap.size+1,5,none⟩ (.int .i64 (numP F f:Int))).setCell ⟨wi.heap.size+1,6,none⟩ (.int .i64 (numP F f':Int)):=⟨_,rfl⟩;have hCz:BoxAt wz (wi.heap.size+1) #[.string (F.blk n).name,.slice Ap (F.blk n).phis.length cp,.slice Ai (F.blk n).insts.length ci,.int .i64 T.kind,.int .i64 T.var,.int .i64 y0,.int .i64 y1] 62:=by rw[hwz,hy0,hy1];simpa using(X3.out.set 5 (.int .i64 (numP F f:Int))).set 6 (.int .i64 (numP F f':Int))
               have hKz:KT [3,64,67,78] ws wz:=by rw[hwz];exact(KT.refl.setCell X3.out ZS _).setCell (X3.out.set 5 _) ZS _
               have hRz:RRow wz wN.heap.size 62 7 (CBO wz wN.heap.size) (.slice Ab ps.length cb) ps:=X5.out.turn (fun k hk=>by rw[hwz];exact(heap_set (fun e=>by have h1:=(HRL.out k hk).2;simp at e;omega)).trans (heap_set (fun e=>by have h1:=(HRL.out k hk).2;simp at e;omega))) (fun _ _ h=>CBO.kt hKz ZS ZS ZS h);have hgz:BoxAt wz g #[.slice A7 F.vars.length c7,.slice A8 F.params.length c8,.slice Ab ps.length cb] 26:=by rw[hwz];exact(X8.out.other ZX _).other ZX _
               have hbz:Below wi.heap.size wi wz:=by rw[hwz];exact(X4.out.setCell ZS _).setCell ZS _
               go_loud (rw[← hwz])
               clear hwz hnumw d3 d5 d6 e5 e6 g5 g6 hwne hwne2
               rotate_left
               rw[hk0]at d3
               go_upto_region 39 with fail
               obtain⟨wz,hwz⟩:∃wz:World,wz=ws:=⟨_,rfl⟩;have hCz:BoxAt wz (wi.heap.size+1) #[.string (F.blk n).name,.slice Ap (F.blk n).phis.length cp,.slice Ai (F.blk n).insts.length ci,.int .i64 T.kind,.int .i64 T.var,.int .i64 y0,.int .i64 y1] 62:=by rw[hwz,hy0,hy1];exact X3.out
               have hKz:KT [3,64,67,78] ws wz:=by rw[hwz];exact KT.refl
               have hRz:RRow wz wN.heap.size 62 7 (CBO wz wN.heap.size) (.slice Ab ps.length cb) ps:=X5.out.turn (fun k hk=>by rw[hwz]) (fun _ _ h=>CBO.kt hKz ZS ZS ZS h);have hgz:BoxAt wz g #[.slice A7 F.vars.length c7,.slice A8 F.params.length c8,.slice Ab ps.length cb] 26:=by rw[hwz];exact X8.out
               have hbz:Below wi.heap.size wi wz:=by rw[hwz];exact X4.out
               go_loud (rw[← hwz])
               clear hwz hnumw d3 d5 d6 e5 e6 g5 g6 hwne hwne2
               rotate_left
               all_goals
                have hVz:=X6.out.kt hKz ZS (fun _ _ h=>h);have hIz:=own_kt X7.out hKz ZS;have hPz:=X1.out.kt hKz ZS (fun _ _ h=>h.kt hKz ZS);have hJz:=X2.out.kt hKz ZS (fun _ _ h=>h.kt hKz ZS);obtain⟨cells,hOb⟩:=hRz.own;have hBz:Below wN.heap.size wN wz:=X10.out.trans (hbz.mono X10.out.size);have o2:=hgz.cell 2;have ogl:=hgz.lt;simp at o2;have hzb:=hBz.size;have hple:ps.length≤n:=by
                 have h1:=congrArg List.length X9.out;rw[List.length_map,prBlks_len]at h1;have:=numP_le (F:=F) n;omega
                have hn64:n≤64:=by omega
                have hcR:wz.rangeAt (wi.heap.size+1) 0 ([.string (F.blk n).name,.slice Ap (F.blk n).phis.length cp,.slice Ai (F.blk n).insts.length ci,.int .i64 T.kind,.int .i64 T.var,.int .i64 y0,.int .i64 y1]:List Value):=by
                 have:=World.rangeAt_of_block (w:=wz) (b:=wi.heap.size+1) hCz 0 7;simpa using this
                have hCl:=hCz.lt;have huB:=Tryz.underlying62;have hinB:(Tryz.prog.info? 62).map (·.size)=some ([.string (F.blk n).name,.slice Ap (F.blk n).phis.length cp,.slice Ai (F.blk n).insts.length ci,.int .i64 T.kind,.int .i64 T.var,.int .i64 y0,.int .i64 y1]:List Value).length:=by kernel_rfl
                have Y1:=Lh hVz;have Y2:=Lh hIz;have Y3:=Lh hPz;have Y4:=Lh hJz;have Y5:=Lh hRz;have Y6:=Lh hBz;have Y7:=Lh hbz;have Y8:=Lh hKz;have Y9:=Lh hnz;clear hVz hIz hPz hJz hRz hBz hbz hKz hnz hCz dl gl2
                go_wp2_with(first
                 |(refine wpList_load_mid rfl 62 _ rfl (wi.heap.size+1) 0 rfl [.string (F.blk n).name,.slice Ap (F.blk n).phis.length cp,.slice Ai (F.blk n).insts.length ci,.int .i64 T.kind,.int .i64 T.var,.int .i64 y0,.int .i64 y1] _ hcR huB rfl hinB ?_)
                 |(refine wpList_one7 rfl _ _ _ rfl Tryz.underlying24 Tryz.info62 rfl ?_)
                 |(at_builtin;refine wpList_appendF _ rfl _ _ 24 rfl wN.heap.size 62 7 96 Tryz.underlying24 Tryz.info62 rfl ZD _ ps.length cells rfl hOb _ ZS #[.string (F.blk n).name,.slice Ap (F.blk n).phis.length cp,.slice Ai (F.blk n).insts.length ci,.int .i64 T.kind,.int .i64 T.var,.int .i64 y0,.int .i64 y1] rfl rfl (by intro u hu;simp at hu;rcases hu with rfl|rfl|rfl|rfl|rfl|rfl|rfl<;>rfl) ZO ZD ZO ?_
                   intro v' w3 hown3 hg3 hfr3;obtain⟨Av,cv,hv3⟩:=own_form hown3;subst hv3;have hgg:(wz.alloc (.cells #[.string (F.blk n).name,.slice Ap (F.blk n).phis.length cp,.slice Ai (F.blk n).insts.length ci,.int .i64 T.kind,.int .i64 T.var,.int .i64 y0,.int .i64 y1] 62)).grownBy w3 (Value.slice Ab ps.length cb).ownBlock:=hg3;clear hg3;have hz3:=hgg.size;simp at hz3;have hgo3:=(hgz.alloc (.cells #[.string (F.blk n).name,.slice Ap (F.blk n).phis.length cp,.slice Ai (F.blk n).insts.length ci,.int .i64 T.kind,.int .i64 T.var,.int .i64 y0,.int .i64 y1] 62)).grown hgg (fun e=>own_box_ne hOb hgz ZD e);have t3:=hgo3.cell 2;simp at t3;have t3f:=hgo3.frozen 2
                   have t3l:=hgo3.lt))
                go_roundw
                case rel=>
                 have hKf:KT [3,64,67,78] wz (w3.setCell ⟨g,2,none⟩ (.slice Av (ps.length+1) cv)):=((KT.refl.alloc _).grown (hOb.alloc _) ZS hgg).setCell hgo3 ZS _;have hpb:prBlks F (n+1)=prBlks F n++[prBlk F n]:=prBlks_yes HTH.out;have hpt2:(prBlk F n).term=⟨T.kind,T.var,y0,y1⟩:=by show prTerm F (F.blk n).term=_;rw[HTM.out];exact HPT.out
                 have hbf:Below wN.heap.size wN (w3.setCell ⟨g,2,none⟩ (.slice Av (ps.length+1) cv)):=((Y6.out.alloc ZO _).grown hgg ZX (fun k' hk'=>(HRL.out k' hk').1)).setCell hg0 _;refine⟨n+1,.slice Av (ps.length+1) cv,ps++[(prBlk F n,.slice Ap (F.blk n).phis.length cp,.slice Ai (F.blk n).insts.length ci)],ZN,ZO,by rw[hpb,List.map_append,X9.out];rfl,by simpa using hgo3.set 2 (.slice Av (ps.length+1) cv),Y1.out.kt hKf ZS (fun _ _ h=>h),own_kt Y2.out hKf ZS,?_,hbf⟩;refine RRow.snoc (cs:=[.string (F.blk n).name,.slice Ap (F.blk n).phis.length cp,.slice Ai (F.blk n).insts.length ci,.int .i64 T.kind,.int .i64 T.var,.int .i64 y0,.int .i64 y1]) Y5.out hOb ?_ rfl (fun _ _ h=>CBO.kt hKf ZS ZS ZS h) ?_
                 · exact ownsRow_setCell_other hown3 (fun e=>own_box_ne hown3 hgo3 ZD e) _
                 · exact⟨by rw[hpt2];rfl,Y9.out,(Y3.out.kt hKf ZS (fun _ _ h=>h.kt hKf ZS)).rebase (by have:=X10.out.size;omega),(Y4.out.kt hKf ZS (fun _ _ h=>h.kt hKf ZS)).rebase (by have:=X10.out.size;omega)⟩
                case measure=>simp[intOf];omega
      ·
       obtain rfl:n=F.blocks.length:=by omega
       have z0:=hbx.cell 0;have z1:=hbx.cell 1;have z2:=hbx.cell 2;simp at z0 z1 z2;have hout:=x1.below (hBr.trans (hbc.mono hBr.size)) x1.lt;have e0:=hout.cell 0;have e1:=hout.cell 1;have e2:=hout.cell 2;have g0:=hout.frozen 0;have g1:=hout.frozen 1;have g2:=hout.frozen 2;have hol:=hout.lt;simp at e0 e1 e2;have X1:=Lh hV;have X2:=Lh hI;have X3:=Lh hR;have X4:=Lh hps;clear hV hI hR hps;go_wp2;have hz:=hout.set3 (a:=.slice A7 F.vars.length c7) (b:=.slice A8 F.params.length c8) (c:=.slice Ab ps.length cb);have z0:=hz.cell 0;have z1:=hz.cell 1;have z2:=hz.cell 2;simp only[List.getElem?_toArray,List.getElem?_cons_zero,List.getElem?_cons_succ]at z0 z1 z2;have hKe:KT [3,64,67,78,62] wr (((wr.setCell ⟨w.heap.size+1,0,none⟩ (.slice A7 F.vars.length c7)).setCell ⟨w.heap.size+1,1,none⟩ (.slice A8 F.params.length c8)).setCell ⟨w.heap.size+1,2,none⟩ (.slice Ab ps.length cb)):=
        ((KT.refl.setCell hout ZS _).setCell (hout.set 0 _) ZS _).setCell ((hout.set 0 _).set 1 _) ZS _
       have hBz:=((hB.setCell (p:=⟨w.heap.size+1,0,none⟩) ZS (.slice A7 F.vars.length c7)).setCell (p:=⟨w.heap.size+1,1,none⟩) ZS (.slice A8 F.params.length c8)).setCell (p:=⟨w.heap.size+1,2,none⟩) ZS (.slice Ab ps.length cb);have hfn:=FnT.of_rows (F:=prF F) (X1.out.kt hKe ZS (fun _ _ h=>h)) (own_kt X2.out hKe ZS) (X3.out.kt hKe ZS (fun _ _ h=>CBO.kt hKe ZS ZS ZS h)) X4.out (bnd_pr HN.out);exact bodyPost_ret (v:=.agg #[.slice A7 F.vars.length c7,.slice A8 F.params.length c8,.slice Ab ps.length cb]) (by simp[results,Tryz.results44,go_sem,z0,z1,z2]) rfl ⟨_,rfl,hfn,hBz⟩
theorem refPrune_calls{W w:World}{fv:Value}{F:PFunc}(hF:FnV W W.heap.size fv F)(hW:Below W.heap.size W w)(hN:Bnd F)(hT:typedP F=true) :
 Calls Tryz.prog 44 #[fv] w fun e w'=>∃gv,e=.returned gv∧FnV w' w'.heap.size gv (prF F)∧Below w.heap.size w w':=by
 refine(refPruneT_calls hF hW hN hT).mono ?_;rintro e w' ⟨gv,h1,h2,h3⟩;exact⟨gv,h1,h2.fn,h3⟩
end Go.Proofs.YthhjlbflpjhahaaGreatDoor
