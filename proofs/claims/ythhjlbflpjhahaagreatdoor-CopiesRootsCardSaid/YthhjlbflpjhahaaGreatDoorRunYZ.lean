/- Cells of rows that were copied; of phis what comes from a block. -/
import Derived.Test.YthhjlbflpjhahaaGreatDoorRunSZ
import Derived.Test.YthhjlbflpjhahaaGreatDoorSchZ
import Derived.Test.YthhjlbflpjhahaaGreatDoorMonLZ
namespace Go.Proofs.YthhjlbflpjhahaaGreatDoor
open Go.RowKit
set_option maxRecDepth 100000
def CellsAt(w:World)(B:Nat)(v:Value)(n:Nat)(xs:List Value):Prop:=∃A c,v=.slice A n c∧n≤c∧∀i u,xs[i]?=some u→∃g,A=some ⟨g,0,none⟩∧B≤g∧g<w.heap.size∧w.cell? ⟨g,i,none⟩=some u
theorem CellsAt.below{w w':World}{B:Nat}{v:Value}{n:Nat}{xs:List Value}(h:CellsAt w B v n xs)(hb:Below w.heap.size w w'):CellsAt w' B v n xs:=by
 obtain⟨A,c,hv,hc,hx⟩:=h;refine⟨A,c,hv,hc,fun i u hi=>?_⟩;obtain⟨g,hg,hB,hl,hcell⟩:=hx i u hi;exact⟨g,hg,hB,Nt hl hb.size,(hb.cell (p:=⟨g,i,none⟩) hl).trans hcell⟩
theorem YgG{w:World}{B e g n cap:Nat}{xs:List Value}(h:w.ownsRow B e 1 (.slice (some ⟨g,0,none⟩) n cap) n xs):∀i u,xs[i]?=some u→w.cell? ⟨g,i,none⟩=some u:=fun i u hi=>by
 have h1:=h.1;have h2:=(List.getElem?_eq_some_iff.1 hi).1;rw[h.cellAt i ZO];exact hi
theorem YgH{P:Program}(w:World){B:Nat}(hB:B≤w.heap.size){t ty e:TypeId}{z:Value}{bytes:Nat}(ht:P.underlying t=some (.slice e))(hinf:(P.info? e).map (fun i=>(i.zero,i.size,i.bytes))=some (some z,1,bytes))(hby:bytes≤64)
 (a:Addr) (g n c:Nat) (xs:List Value) (hl:xs.length=n) (hc:∀i u,xs[i]?=some u→w.cell? ⟨g,i,none⟩=some u) (hn:n≤1048576) :
 ∃v' w',(Builtin.append_ #[t,t] ty #[.slice (some a) 0 0,.slice (some ⟨g,0,none⟩) n c]).run P w=.ok v' w'∧CellsAt w' B v' n xs∧Below w.heap.size w w':=by
 obtain⟨i,hi,hz,hsz,hb⟩:=info_parts hinf
 by_cases h0:n=0
 · subst h0
   have:xs=[]:=List.eq_nil_of_length_eq_zero hl;subst this;refine⟨.slice (some a) 0 0,w,?_,⟨some a,0,rfl,Nr _,fun i u h=>by simp at h⟩,Br _ _⟩;have hf:=run_firstCells_some (P:=P) w i.size 0 ⟨g,0,none⟩ 0 c [] ZS ZS;simp[Builtin.append_,run_underlying ht,sizeOf,typeInfo,hi,Builtin.lenOf,hf,storeCells]
 · have hr:=run_append_grow (P:=P) w t ty e i z ht hi hz a 0 0 [] ZS ZS ⟨g,0,none⟩ n c xs (by rw[hsz];omega) (fun j u hj=>by rw[Addr.add_lit,Nat.zero_add];exact hc j u hj) ZO ZO (by
    rw[Nat.zero_add,nextslicecap_zero ZO,hb]
    calc n*bytes≤1048576*64:=Nat.mul_le_mul hn hby
     _≤281474976710656:=ZD)
   rw[Nat.zero_add]at hr;refine⟨_,_,hr,⟨_,_,rfl,?_,fun j u hj=>⟨w.heap.size,rfl,hB,ZS,?_⟩⟩,((Br _ _).drew).alloc ZS _⟩
   · exact grownCap_ge w n 0 e
   · have hg:=heap_alloc_new w.drew (.cells (([]:List Value).toArray++xs.toArray++Builtin.zeroCells z.cells (grownCap w n 0 e-n)) e)
     rw[heap_drew]at hg;rw[cell_of_row _ _ _ _ _ _ hg];have:=(List.getElem?_eq_some_iff.1 hj).1;simp[Array.getElem?_append,this];exact(List.getElem?_eq_some_iff.1 hj).2
theorem Yn0{b:Int}:∀{fs l:List Int} {j:Nat},j<fs.length→fs.length=l.length→Yt (fs.drop j) (l.drop j) b=if ith fs j=b then ith l j else Yt (fs.drop (j+1)) (l.drop (j+1)) b:=by
 intro fs l j hj hl;rw[List.drop_eq_getElem_cons hj,List.drop_eq_getElem_cons (show j<l.length from ZO)];show(if fs[j]=b then l[j] else Yt (fs.drop (j+1)) (l.drop (j+1)) b)=_;simp[ith,List.getD_eq_getElem?_getD,hj,show j<l.length from ZO]
theorem Yn1{b:Int}{fs l:List Int}{j:Nat}(h:fs.length≤j):Yt (fs.drop j) (l.drop j) b=-1:=by
 rw[List.drop_eq_nil_of_le h];unfold Yt;rfl
theorem Yn2{b:PBlock}{x:Int}{k:Nat}(h:k<b.phis.length):Yu (b.phis.take (k+1)) x=Yu (b.phis.take k) x++[Yt (b.phi k).froms (b.phi k).args x]:=by
 unfold Yu;rw[List.take_add_one,PBlock.phi_get h];simp
theorem YiY{o:RSt}:∀(ps:List PPhi) (gs:List Int) (p:PPhi) (g:Int) (s:RSt),ps.length=gs.length→YQ o (ps++[p]) (gs++[g]) s=(((YQ o ps gs s).setI p.dst (o.int g)).setB p.dst (o.boo g)).setA p.dst (o.arr g)
 |[],[],_,_,_,_=>rfl
 |[],_::_,_,_,_,h=>by simp at h
 |_::_,[],_,_,_,h=>by simp at h
 |q::ps,y::gs,p,g,s,h=>by
  rw[List.cons_append,List.cons_append,YQ,YQ];exact YiY ps gs p g _ (by simpa using h)
theorem Yek{ps:List PPhi}{x:Int}:(Yu ps x).length=ps.length:=by simp[Yu]
theorem Yn3{b:PBlock}{x:Int}{k:Nat}(h:k<b.phis.length):ith (Yu b.phis x) k=Yt (b.phi k).froms (b.phi k).args x:=by
 unfold ith Yu;rw[List.getD_eq_getElem?_getD,List.getElem?_map,PBlock.phi_get h];rfl
theorem Yn4{F:PFunc}{b:PBlock}{x:Int}{k:Nat}(h:k<b.phis.length)(hp:YI F (b.phi k)=true)(hn:(Yu b.phis x).any (fun g=>decide (g<0))=false):∃j:Nat,ith (Yu b.phis x) k=j∧j<F.vars.length:=by
 have hm:ith (Yu b.phis x) k∈Yu b.phis x:=Ycb (by rw[Yek];exact h);have h1:¬ith (Yu b.phis x) k<0:=by
  have:=List.any_eq_false.1 hn _ hm;simpa using this
 rw[Yn3 h]at h1 ⊢;unfold YI at hp;simp only[Bool.and_eq_true]at hp;rcases Ygk (b.phi k).froms (b.phi k).args x with h2|h2
 · exact ZO
 · have:=Y2 (List.all_eq_true.1 hp.1.2 _ h2)
   exact⟨(Yt (b.phi k).froms (b.phi k).args x).toNat,ZO,ZO⟩
theorem Yn5{P:Program}(w:World){t ty:TypeId}(base:Nat)(e:TypeId)(ht:P.underlying t=some (.slice e)){z:Value}(hinf:(P.info? e).map (fun i=>(i.zero,i.size,i.bytes))=some (some z,1,8))(hz1:z.cells.size=1)
 (v:Value) (n:Nat) (xs:List Int) (hown:w.ownsRow base e 1 v n (xs.map (Value.int .i64))) {B:Nat} {A:Option Addr} {ys:List Int} {c:Nat} (hr:Rd B A ys 1 (Yi w)) (h63:n+ys.length≤1048576) (hbase:base≤w.heap.size) :
 ∃v' w',(Builtin.append_ #[t,t] ty #[v,.slice A ys.length c]).run P w=.ok v' w'∧w'.ownsRow base e 1 v' (n+ys.length) ((xs++ys).map (Value.int .i64))∧w.grownBy w' v.ownBlock:=by
 obtain⟨i,hi,hz,hsz,hb⟩:=info_parts hinf;rcases A with _|ad
 · have hy:ys=[]:=by
    cases ys with
    |nil=>rfl
    |cons y r=>obtain⟨b,off,he,-⟩:=hr 0 y rfl;cases he
   subst hy;refine⟨v,w,?_,by simpa using hown,World.grownBy.refl w _⟩;rcases hown.2 with⟨rfl,rfl⟩|⟨g,cap,cur,rfl,_,_,hnc,_⟩
   · simp[Builtin.append_,run_underlying ht,sizeOf,typeInfo,hi,Builtin.lenOf,Builtin.firstCells]
   · simp[Builtin.append_,run_underlying ht,sizeOf,typeInfo,hi,Builtin.lenOf,Builtin.firstCells,hnc,storeCells]
 · have hcells:∀j u,(ys.map (Value.int .i64))[j]?=some u→w.cell? (ad.add j)=some u:=fun j u hu=>by
    have hj:j<ys.length:=by have:=(List.getElem?_eq_some_iff.1 hu).1;simpa using this
    obtain⟨b,off,he,hbl,hc⟩:=hr j _ (Yaa hj);cases he;rw[Addr.add_lit];rw[List.getElem?_map,Yaa hj]at hu;simp only[Option.map_some,Option.some.injEq]at hu;rw[← hu];unfold Yi at hc;simpa using hc
   obtain⟨v',w',hrun,h2,h3,-,-⟩:=run_append_own_at (P:=P) w base t ty e i z 1 8 ht hi hz hsz hb hz1 ZD v n _ hown ad ys.length c (ys.map (Value.int .i64)) ZS hcells (fun u hu=>by obtain⟨x,-,rfl⟩:=List.mem_map.1 hu;rfl) (by unfold maxLen;omega) ZO hbase;exact⟨v',w',hrun,by simpa using h2,h3⟩
theorem Yn6{P:Program}(w:World){t ty:TypeId}(e:TypeId)(ht:P.underlying t=some (.slice e)){z:Value}(hinf:(P.info? e).map (fun i=>(i.zero,i.size,i.bytes))=some (some z,1,8))(hz1:z.cells.size=1)
 {A:Option Addr} {ys:List Int} {c:Nat} (hr:Rd w.heap.size A ys 1 (Yi w)) (hl:ys.length≤1048576) :
 ∃v' w',(Builtin.append_ #[t,t] ty #[.slice (some ⟨w.heap.size,0,none⟩) 0 0,.slice A ys.length c]).run P (w.alloc (.cells #[] e))=.ok v' w'∧w'.ownsRow w.heap.size e 1 v' ys.length (ys.map (Value.int .i64))∧Below w.heap.size w w':=by
 have hb:Below w.heap.size w (w.alloc (.cells #[] e)):=(Br _ _).alloc (Nr _) _;have h0:(w.alloc (.cells #[] e)).ownsRow w.heap.size e 1 (.slice (some ⟨w.heap.size,0,none⟩) 0 0) 0 (([]:List Int).map (Value.int .i64)):=World.ownsRow_lit w #[] 0 (Nr _) (Nz _) rfl;obtain⟨v',w',h1,h2,h3⟩:=Yn5 (P:=P) (w.alloc (.cells #[] e)) (ty:=ty) w.heap.size e ht hinf hz1 _ 0 [] h0 (hr.move hb) (c:=c) ZO ZS;refine⟨v',w',h1,by simpa using h2,?_⟩;exact hb.grown h3 ZS (fun k hk=>by simp only[Value.ownBlock,Option.some.injEq]at hk;omega)
end Go.Proofs.YthhjlbflpjhahaaGreatDoor
namespace Go.Proofs.YthhjlbflpjhahaaGreatDoor
open Go
section
variable {P:Program} {Q:Exit→Act→World→Prop} {S:World→Prop}
end
end Go.Proofs.YthhjlbflpjhahaaGreatDoor
namespace Go.Proofs.YthhjlbflpjhahaaGreatDoor
open Go.RowKit
set_option maxRecDepth 100000
section
variable {W w:World} {D:Nat→Prop} {nb gi gb ga:Nat} {x0 x1 x2 vr vt:Value} {vrs:List Value} {s:RSt} {F:PFunc} {x:PInst} {Aa:Option Addr} {ca o:Nat}
set_option maxHeartbeats 16000000 in
theorem Yo9(hop:x.op=(o:Int))(ho:o<27)(hgrp:x.args.length=0)(hx:Yj F x=true)(hW:Below W.heap.size W w)
 (h:RunO w D x0 x1 x2 nb gi gb ga F.vars.length vr vt vrs s) (hD:∀k,D k→k<w.heap.size) :
 Calls Tryz.prog 60 #[.pointer (some ⟨nb,0,none⟩),.agg #[.int .i64 (o:Int),.int .i64 x.dst,.slice Aa x.args.length ca,.int .i64 x.num]] w fun e w'=>e=.returned (.tuple #[])∧Yc1 w D x0 x1 x2 nb gi gb ga F.vars.length (instN o s x) w':=by
 obtain⟨hv,hl,hm⟩:=YaR hx;have hck:=fun w=>Ye1 (w:=w) o ho
 have hgs:=Ynp o ho (by rw[hop]at hl;omega);rw[if_neg ZO]at hck;have hlen':decide ((1:Int)<(x.args.length:Int))=false:=decide_eq_false ZO;have hlen0:decide ((0:Int)<(x.args.length:Int))=false:=decide_eq_false ZO;have hln':decide (1<x.args.length)=false:=decide_eq_false ZO;have hln0:decide (0<x.args.length)=false:=decide_eq_false ZO;clear hgrp;obtain⟨sW,HSW⟩:∃sW,Hid (sW=bs (kindAt o).1):=⟨_,rfl⟩;have HL:=Lh hl;have HM:=Lh hm;have HX:=Lh hx;have HV:=Lh hv;clear hl hm hx hv;go_enter Tryz.func60,Tryz.ntmps60
 go_upto_region 1 with fail
 go_cut[4] (fun s4 wx=>s4=.string sW∧Below (w.heap.size+1) (w.alloc (.cells #[.int .i64 (o:Int),.int .i64 x.dst,.slice Aa x.args.length ca,.int .i64 x.num] 67)) wx)
 case first=>as_aux_lemma=>
  obtain⟨S0,hS0⟩:∃S0:World→Prop,S0=fun w'=>w'.cell? ⟨w.heap.size,0,none⟩=some (.int .i64 (o:Int))∧Below (w.heap.size+1) (w.alloc (.cells #[.int .i64 (o:Int),.int .i64 x.dst,.slice Aa x.args.length ca,.int .i64 x.num] 67)) w'∧w.heap.size<w'.heap.size:=⟨_,rfl⟩
  have HS0:=Lh hS0;clear hS0;have k0:=fun xw=>(WS.at HS0 xw).1
  have k1:=fun xw=>(WS.at HS0 xw).2.1
  have k2:=fun xw=>(WS.at HS0 xw).2.2
  refine YeD (S:=S0) [(1,false),(2,false),(0,true),(3,false),(4,false),(5,true),(6,false)] ZK ZK (fun _ _ _ _ _ h=>h) ?hS (fun hSc=>?_)
  case hS=>
   rw[HS0.out];exact⟨ZI,BL,ZJ⟩
  have hne0:Nonempty (WS S0):=⟨⟨_,hSc⟩⟩;simp only[List.map_cons,List.map_nil,Ld,Le]
  repeat
   first
   |((with_reducible refine YeE ?_ ?_);exact rfl;dsimp only;go_big_quiet_step (fail);(try with_reducible refine wpQuiet_nil ?_);(try dsimp only))
   |((with_reducible refine YeF ?_ ?_ (fun K hK=>?_))
     exact rfl;exact rfl;dsimp only;go_simp;(try go_wp2_with(go_at_call 76;refine Ybl.mono ?_;rintro e w9 ⟨rfl,hR9,hz9,hb9⟩;obtain⟨hc9,hf9⟩:=Yb hb9;obtain⟨hr0,hr1,hr2⟩:=hR9 o ho;try simp at hz9;try simp only[heap_drew,World.size_alloc]at hr0 hr1 hr2;rw[← HSW.out]at hr0));refine hK.out _ _ ?hS (fun hSc=>?_)
     case hS=>
      first
      |exact hSc
      |(rw[HS0.out]at hSc ⊢;obtain⟨p0,p1,p2⟩:=hSc;exact⟨ZC0,ZL1,ZT2⟩)
      |(rw[HS0.out]at hSc ⊢;obtain⟨p0,p1,p2⟩:=hSc;exact⟨ZC,BL,ZT⟩)
     clear hK K)
  refine YeG ?_;rw[HS0.out]at hSc;obtain⟨p0,p1,p2⟩:=hSc;clear hne0 HS0 k0 k1 k2;go_wp2_with fail
  go_meet
  exact⟨rfl,BL⟩
 case rest=>as_aux_lemma=>
  obtain⟨rfl,hbc⟩:=hcut;obtain⟨i8,ix⟩:=YbE hbc;have i0:wc.cell? ⟨w.heap.size,0,none⟩=some (.int .i64 (o:Int)):=ix 0;have i1:wc.cell? ⟨w.heap.size,1,none⟩=some (.int .i64 x.dst):=ix 1;have i2:wc.cell? ⟨w.heap.size,2,none⟩=some (.slice Aa x.args.length ca):=ix 2;have i3:wc.cell? ⟨w.heap.size,3,none⟩=some (.int .i64 x.num):=ix 3;have hBc:Below w.heap.size w wc:=((Br _ _).alloc (Nr _) _).trans (hbc.mono (Nat.le_succ _));have hWc:=hW.trans (hBc.mono hW.size);have h2:=h.below hBc;have HK:=Lh (Kp.below (D:=D) hBc (fun k _ hk=>hD k hk));have HD:=Lh (show ∀k,D k→k<wc.heap.size from fun k hk=>Nt (hD k hk) hBc.size);have xl:=h2.box.lt;have x1l:=h2.box.cell 3;have x2l:=h2.box.cell 4;have x3l:=h2.box.cell 5;have x4l:=h2.box.cell 6;replace x1l:wc.cell? ⟨nb,3,none⟩=some (.slice (some ⟨gi,0,none⟩) F.vars.length F.vars.length):=x1l;replace x2l:wc.cell? ⟨nb,4,none⟩=some (.slice (some ⟨gb,0,none⟩) F.vars.length F.vars.length):=x2l;replace x3l:wc.cell? ⟨nb,5,none⟩=some (.slice (some ⟨ga,0,none⟩) F.vars.length F.vars.length):=x3l;replace x4l:wc.cell? ⟨nb,6,none⟩=some vr:=x4l;have gil:=(h2.ints.lt gi rfl).2;have gbl:=(h2.bools.lt gb rfl).2;have gal:=(h2.arrs.lt ga rfl).2;have H2:=Lh h2;clear h h2 ix hbc;rcases hgs with rfl|rfl
  · as_aux_lemma=>
    obtain⟨d,hd,hdn⟩:=Yae (HM.out (by rw[hop];exact(YaN 0 ZD).resolve_right ZD));rw[hd]at i1;have hdi:(d:Int)<(F.vars.length:Int):=by omega
    have fi:=H2.out.ints.frozenAt d;have fb:=H2.out.bools.frozenAt d;have fa:=H2.out.arrs.frozenAt d;have yi:=Yn H2.out.ints hdn;have yb:=Y9 H2.out.bools hdn;have ya:=Yn H2.out.arrs hdn;obtain⟨q0,-,-,-,-,-,-,-,-,-,-,-,-,-,-,-,-,-,-,-⟩:=Y5 0 ZD HSW.out;have HF:=Lh (show instN 0 s x=s.setI (d:Int) x.num by rw[← hd];rfl);go_wp2_with(go_at_call 88;refine(hck _).mono ?_;rintro e w9 ⟨rfl,rfl⟩);obtain⟨S0,hS0⟩:∃S0:World→Prop,S0=fun w'=>w'.cell? ⟨nb,3,none⟩=some (.slice (some ⟨gi,0,none⟩) F.vars.length F.vars.length)∧w'.cell? ⟨w.heap.size,3,none⟩=some (.int .i64 x.num)∧nb<w'.heap.size∧w.heap.size<w'.heap.size:=⟨_,rfl⟩
    have HS0:=Lh hS0;clear hS0;have k0:=fun xw=>(WS.at HS0 xw).1
    have k1:=fun xw=>(WS.at HS0 xw).2.1
    have k2:=fun xw=>(WS.at HS0 xw).2.2.1
    have k3:=fun xw=>(WS.at HS0 xw).2.2.2
    refine YZ (S:=S0) [7,8] ZK ?hS (fun hSc hcl=>?_)
    case hS=>
     rw[HS0.out];exact⟨ZI,ZI,ZJ,ZJ⟩
    have hne0:Nonempty (WS S0):=⟨⟨_,hSc⟩⟩;have hneT:Nonempty (WS (fun _=>True)):=match hne0 with|⟨x⟩=>⟨⟨x.w,trivial⟩⟩
    refine YT [(0,0),(1,0),(2,0),(3,0),(4,0),(5,0),(6,0)] 2 rfl ZK (fun _ _ _ _ _ h=>h) hSc hcl ?_
    all_goals
     (try simp only[List.map_cons,List.map_nil,Ld,Le])
     repeat
      first
      |((with_reducible refine YU ?_ ?_);exact rfl;dsimp only;go_big_quiet_step (fail);(try with_reducible refine wpQuiet_nil ?_);(try dsimp only))
      |((with_reducible refine YV ?_ ?_);exact rfl;dsimp only;go_big_quiet_step (fail);(try with_reducible refine wpQuiet_nil ?_);(try dsimp only))
     (try(refine YW ?_;intro hSc hcl))
    all_goals
     refine Y0 [7,8] rfl ZK ?_;simp only[List.map_cons,List.map_nil,Ld,Le];rw[HS0.out]at hSc;obtain⟨p0,p1,p2,p3⟩:=hSc;clear hne0 hneT hcl HS0 k0 k1 k2 k3;go_wp2;(first|go_end0|((try simp only[Exit.inBlock,Exit.then]);refine bodyPost_ret (results_none rfl _ _ _) rfl ?_));rw[HF.out];exact⟨rfl,_,_,_,RunO.setI (w:=w9.drew) (j:=d) (RunO.below H2.out (Below.drew (Br _ _))) rfl _,Kp.setCell (w:=w9.drew) (p:=⟨gi,d,none⟩) (Kp.drew HK.out) H2.out.di _⟩
  · as_aux_lemma=>
    obtain⟨d,hd,hdn⟩:=Yae (HM.out (by rw[hop];exact(YaN 16 ZD).resolve_right ZD));rw[hd]at i1;have hdi:(d:Int)<(F.vars.length:Int):=by omega
    have fi:=H2.out.ints.frozenAt d;have fb:=H2.out.bools.frozenAt d;have fa:=H2.out.arrs.frozenAt d;have yi:=Yn H2.out.ints hdn;have yb:=Y9 H2.out.bools hdn;have ya:=Yn H2.out.arrs hdn;obtain⟨q0,q1,q25,q26,q2,q3,q4,q5,q6,q7,q8,q9,q10,q11,q12,q13,q14,q15,q16,-⟩:=Y5 16 ZD HSW.out;have HF:=Lh (show instN 16 s x=s.setA (d:Int) (-1) by rw[← hd];rfl);go_wp2_with(go_at_call 88;refine(hck _).mono ?_;rintro e w9 ⟨rfl,rfl⟩);(first|go_end0|((try simp only[Exit.inBlock,Exit.then]);refine bodyPost_ret (results_none rfl _ _ _) rfl ?_));rw[HF.out];exact⟨rfl,_,_,_,RunO.setA (RunO.below H2.out BLN) rfl _,Kp.setCell ZP H2.out.da _⟩
end
theorem Ypa:∀n:Nat,n<27→2≤(YH (n:Int)).length→(18≤n∧n≤24)→n∈[18,21,22,23]:=by decide +kernel
theorem Ypb:∀n:Nat,n<27→¬2≤(YH (n:Int)).length→(18≤n∧n≤24)→n∈[19,20,24]:=by decide +kernel
theorem Yjx:∀n:Nat,n<27→(18≤n∧n≤24)→1≤(YH (n:Int)).length:=by decide +kernel
section
variable {W w:World} {D:Nat→Prop} {nb gi gb ga:Nat} {x0 x1 x2 vr vt:Value} {vrs:List Value} {s:RSt} {F:PFunc} {x:PInst} {Aa:Option Addr} {ca o:Nat}
set_option maxHeartbeats 8000000 in
theorem Ypc(hI:RInv F s)(hop:x.op=(o:Int))(ho:o<27)(hgrp:2≤x.args.length)(hc:18≤o∧o≤24)(hx:Yj F x=true)(hA:Rd W.heap.size Aa x.args 1 (Yi W))(hlen:Len x.args.length)(hW:Below W.heap.size W w)
 (h:RunO w D x0 x1 x2 nb gi gb ga F.vars.length vr vt vrs s) :
 Calls Tryz.prog 89 #[.pointer (some ⟨nb,0,none⟩),.string (bs (kindAt o).1),.slice Aa x.args.length ca] w fun e w'=>e=.returned (.bool (Ybd o s x))∧∃m,w'=w.drewN m:=by
 obtain⟨hv,hl,-⟩:=YaR hx;have hlen':(1:Int)<(x.args.length:Int):=by omega
 have hlen0:(0:Int)<(x.args.length:Int):=by omega
 have hgs:=Ypa o ho (by rw[hop]at hl;omega) hc;simp only[List.mem_cons,List.not_mem_nil,or_false]at hgs;unfold Len at hlen;obtain⟨sW,HSW⟩:∃sW,Hid (sW=bs (kindAt o).1):=⟨_,rfl⟩;rw[← HSW.out];have HI:=Lh hI;obtain⟨k0,b0,off0,e0,n0,ha0,hb0,c0⟩:=Yc2 hv hA hW (i:=0) ZO;replace c0:w.cell? ⟨b0,off0,none⟩=some (.int .i64 (k0:Int)):=c0;obtain⟨k1,b1,off1,e1,n1,ha1,hb1,c1⟩:=Yc2 hv hA hW (i:=1) ZO;have ha1':=ha1;rw[ha0]at ha1';simp only[Option.some.injEq,Addr.mk.injEq,and_true]at ha1';obtain⟨rfl,rfl⟩:=ha1';have xl:=h.box.lt;have x1l:=h.box.cell 3;have x3l:=h.box.cell 5;replace x1l:w.cell? ⟨nb,3,none⟩=some (.slice (some ⟨gi,0,none⟩) F.vars.length F.vars.length):=x1l;replace x3l:w.cell? ⟨nb,5,none⟩=some (.slice (some ⟨ga,0,none⟩) F.vars.length F.vars.length):=x3l;have gil:=(h.ints.lt gi rfl).2;have gal:=(h.arrs.lt ga rfl).2;have a0:=Yn h.ints n0;have a1:=Yn h.ints n1;have r0:=Yn h.arrs n0;have ea:Hid (s.int (ith x.args 0)=ith s.ints k0):=by rw[e0];rfl
 have eb:Hid (s.int (ith x.args 1)=ith s.ints k1):=by rw[e1];rfl
 have er:Hid (s.arr (ith x.args 0)=ith s.arrs k0):=by rw[e0];rfl
 have k0l:(k0:Int)<(F.vars.length:Int):=by omega
 have k1l:(k1:Int)<(F.vars.length:Int):=by omega
 have ia:Hid (I64 (ith s.ints k0)):=HI.out.int (k0:Int);have ib:Hid (I64 (ith s.ints k1)):=HI.out.int (k1:Int);have H2:=Lh h;clear h e0 e1 hA hv hl hI hx hc hgrp;rw[ha0];clear ha0 ha1;generalize ith s.ints k0=a at a0 ea ia;generalize ith s.ints k1=b at a1 eb ib;generalize ith s.arrs k0=r at r0 er;have hpl:=fun(w1:World) (hb:Below w.heap.size w w1)=>(Yec (w:=w1) (H2.out.below hb) r b).mono (R':=fun e w'=>e=.returned (.bool (s.placeB r b))∧∃k,w'=w1.drewN k) fun _ _ h=>⟨h.1,0,h.2⟩
 have HPL:=Lh hpl;clear hpl;go_enter Tryz.func89,Tryz.ntmps89;go_wp2
 go_quiet (fail)
 go_wp2
 go_quiet (fail)
 rcases hgs with rfl|rfl|rfl|rfl
 · as_aux_lemma=>
   have q18:(sW.toList==[99,104,107,105,100,120])=true:=by rw[HSW.out];exact Ys 18 ZD 18 ZD
   have HF:=Lh (show Ybd 18 s x=s.placeB r b by rw[← er.out,← eb.out];rfl);go_wp2
   go_quiet (first|(go_at_call 92;refine Ynm (HPL.out _ ?_);exact BLN))
   go_wp2;go_ret;exact⟨Ya HF.out.symm,by first|exact⟨_,rfl⟩|exact⟨_,World.drewN_drewN _ _ _⟩|(simp only[World.drewN_drewN];exact⟨_,rfl⟩)⟩
 · as_aux_lemma=>
   have q18:(sW.toList==[99,104,107,105,100,120])=false:=by rw[HSW.out];exact Ys 21 ZD 18 ZD
   have q19:(sW.toList==[99,104,107,110,105,108])=false:=by rw[HSW.out];exact Ys 21 ZD 19 ZD
   have q20:(sW.toList==[99,104,107,100,105,118])=false:=by rw[HSW.out];exact Ys 21 ZD 20 ZD
   have q21:(sW.toList==[99,104,107,97,100,100])=true:=by rw[HSW.out];exact Ys 21 ZD 21 ZD
   have HF:=Lh (show Ybd 21 s x=YcZ a b by rw[← ea.out,← eb.out];rfl);go_wp2_with(go_at_call 112;refine(Yne _ _).mono ?_;rintro e w9 ⟨rfl,m9,rfl⟩);go_ret;exact⟨Ya HF.out.symm,by first|exact⟨_,rfl⟩|exact⟨_,World.drewN_drewN _ _ _⟩|(simp only[World.drewN_drewN];exact⟨_,rfl⟩)⟩
 · as_aux_lemma=>
   have q18:(sW.toList==[99,104,107,105,100,120])=false:=by rw[HSW.out];exact Ys 22 ZD 18 ZD
   have q19:(sW.toList==[99,104,107,110,105,108])=false:=by rw[HSW.out];exact Ys 22 ZD 19 ZD
   have q20:(sW.toList==[99,104,107,100,105,118])=false:=by rw[HSW.out];exact Ys 22 ZD 20 ZD
   have q21:(sW.toList==[99,104,107,97,100,100])=false:=by rw[HSW.out];exact Ys 22 ZD 21 ZD
   have q22:(sW.toList==[99,104,107,115,117,98])=true:=by rw[HSW.out];exact Ys 22 ZD 22 ZD
   have HF:=Lh (show Ybd 22 s x=Yc0 a b by rw[← ea.out,← eb.out];rfl);go_wp2_with(go_at_call 112;refine(Ynf _ _).mono ?_;rintro e w9 ⟨rfl,m9,rfl⟩);go_ret;exact⟨Ya HF.out.symm,by first|exact⟨_,rfl⟩|exact⟨_,World.drewN_drewN _ _ _⟩|(simp only[World.drewN_drewN];exact⟨_,rfl⟩)⟩
 · as_aux_lemma=>
   have q18:(sW.toList==[99,104,107,105,100,120])=false:=by rw[HSW.out];exact Ys 23 ZD 18 ZD
   have q19:(sW.toList==[99,104,107,110,105,108])=false:=by rw[HSW.out];exact Ys 23 ZD 19 ZD
   have q20:(sW.toList==[99,104,107,100,105,118])=false:=by rw[HSW.out];exact Ys 23 ZD 20 ZD
   have q21:(sW.toList==[99,104,107,97,100,100])=false:=by rw[HSW.out];exact Ys 23 ZD 21 ZD
   have q22:(sW.toList==[99,104,107,115,117,98])=false:=by rw[HSW.out];exact Ys 23 ZD 22 ZD
   have q23:(sW.toList==[99,104,107,109,117,108])=true:=by rw[HSW.out];exact Ys 23 ZD 23 ZD
   have HF:=Lh (show Ybd 23 s x=YbV a b by rw[← ea.out,← eb.out];rfl);go_wp2_with(go_at_call 112;refine(Ynh _ _ ia.out ib.out).mono ?_;rintro e w9 ⟨rfl,m9,rfl⟩);go_ret;exact⟨Ya HF.out.symm,by first|exact⟨_,rfl⟩|exact⟨_,World.drewN_drewN _ _ _⟩|(simp only[World.drewN_drewN];exact⟨_,rfl⟩)⟩
set_option maxHeartbeats 8000000 in
theorem Ypd(hop:x.op=(o:Int))(ho:o<27)(hgrp:¬2≤x.args.length)(hc:18≤o∧o≤24)(hx:Yj F x=true)(hA:Rd W.heap.size Aa x.args 1 (Yi W))(hlen:Len x.args.length)(hW:Below W.heap.size W w)
 (h:RunO w D x0 x1 x2 nb gi gb ga F.vars.length vr vt vrs s) :
 Calls Tryz.prog 89 #[.pointer (some ⟨nb,0,none⟩),.string (bs (kindAt o).1),.slice Aa x.args.length ca] w fun e w'=>e=.returned (.bool (Ybd o s x))∧∃m,w'=w.drewN m:=by
 obtain⟨hv,hl,-⟩:=YaR hx;have h1:=Yjx o ho hc;rw[← hop,← hl]at h1;have hlen':decide ((1:Int)<(x.args.length:Int))=false:=decide_eq_false ZO;have hlen0:(0:Int)<(x.args.length:Int):=by omega
 have hgs:=Ypb o ho (by rw[hop]at hl;omega) hc;simp only[List.mem_cons,List.not_mem_nil,or_false]at hgs;unfold Len at hlen;obtain⟨sW,HSW⟩:∃sW,Hid (sW=bs (kindAt o).1):=⟨_,rfl⟩;rw[← HSW.out];obtain⟨k0,b0,off0,e0,n0,ha0,hb0,c0⟩:=Yc2 hv hA hW (i:=0) ZO;replace c0:w.cell? ⟨b0,off0,none⟩=some (.int .i64 (k0:Int)):=c0;have xl:=h.box.lt;have x1l:=h.box.cell 3;have x3l:=h.box.cell 5;replace x1l:w.cell? ⟨nb,3,none⟩=some (.slice (some ⟨gi,0,none⟩) F.vars.length F.vars.length):=x1l;replace x3l:w.cell? ⟨nb,5,none⟩=some (.slice (some ⟨ga,0,none⟩) F.vars.length F.vars.length):=x3l;have gil:=(h.ints.lt gi rfl).2;have gal:=(h.arrs.lt ga rfl).2;have a0:=Yn h.ints n0;have r0:=Yn h.arrs n0;have ea:Hid (s.int (ith x.args 0)=ith s.ints k0):=by rw[e0];rfl
 have er:Hid (s.arr (ith x.args 0)=ith s.arrs k0):=by rw[e0];rfl
 have k0l:(k0:Int)<(F.vars.length:Int):=by omega
 clear h e0 hA hv hl hx hc hgrp h1;rw[ha0];clear ha0;generalize ith s.ints k0=a at a0 ea;generalize ith s.arrs k0=r at r0 er;go_enter Tryz.func89,Tryz.ntmps89;go_wp2
 go_quiet (fail)
 rcases hgs with rfl|rfl|rfl
 · as_aux_lemma=>
   have q18:(sW.toList==[99,104,107,105,100,120])=false:=by rw[HSW.out];exact Ys 19 ZD 18 ZD
   have q19:(sW.toList==[99,104,107,110,105,108])=true:=by rw[HSW.out];exact Ys 19 ZD 19 ZD
   have HF:=Lh (show Ybd 19 s x=decide (0≤r) by rw[← er.out];rfl);go_wp2
   go_quiet (fail)
   go_wp2;go_ret;exact⟨Ya HF.out.symm,by first|exact⟨_,rfl⟩|exact⟨_,World.drewN_drewN _ _ _⟩|(simp only[World.drewN_drewN];exact⟨_,rfl⟩)⟩
 · as_aux_lemma=>
   have q18:(sW.toList==[99,104,107,105,100,120])=false:=by rw[HSW.out];exact Ys 20 ZD 18 ZD
   have q19:(sW.toList==[99,104,107,110,105,108])=false:=by rw[HSW.out];exact Ys 20 ZD 19 ZD
   have q20:(sW.toList==[99,104,107,100,105,118])=true:=by rw[HSW.out];exact Ys 20 ZD 20 ZD
   have HF:=Lh (show Ybd 20 s x=!(a==0) by rw[← ea.out];rfl);go_wp2;go_ret;exact⟨Ya HF.out.symm,by first|exact⟨_,rfl⟩|exact⟨_,World.drewN_drewN _ _ _⟩|(simp only[World.drewN_drewN];exact⟨_,rfl⟩)⟩
 · as_aux_lemma=>
   have q18:(sW.toList==[99,104,107,105,100,120])=false:=by rw[HSW.out];exact Ys 24 ZD 18 ZD
   have q19:(sW.toList==[99,104,107,110,105,108])=false:=by rw[HSW.out];exact Ys 24 ZD 19 ZD
   have q20:(sW.toList==[99,104,107,100,105,118])=false:=by rw[HSW.out];exact Ys 24 ZD 20 ZD
   have q21:(sW.toList==[99,104,107,97,100,100])=false:=by rw[HSW.out];exact Ys 24 ZD 21 ZD
   have q22:(sW.toList==[99,104,107,115,117,98])=false:=by rw[HSW.out];exact Ys 24 ZD 22 ZD
   have q23:(sW.toList==[99,104,107,109,117,108])=false:=by rw[HSW.out];exact Ys 24 ZD 23 ZD
   have HF:=Lh (show Ybd 24 s x=(decide (0≤a)&&decide (a≤64)) by rw[← ea.out];rfl)
   by_cases p0:0≤a
   · go_wp2
     go_ret;exact⟨Ya (by rw[HF.out,decide_eq_true p0];rfl),_,rfl⟩
   · have p1:decide (0≤a)=false:=decide_eq_false p0
     go_wp2;go_ret;exact⟨Ya (by rw[HF.out,p1];rfl),_,rfl⟩
end
end Go.Proofs.YthhjlbflpjhahaaGreatDoor
