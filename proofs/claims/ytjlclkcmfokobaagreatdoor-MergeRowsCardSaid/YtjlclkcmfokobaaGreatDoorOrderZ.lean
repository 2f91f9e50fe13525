/- The walk of graph.order. -/
import Derived.Test.YtjlclkcmfokobaaGreatDoorTypedZ
import Derived.Test.YtjlclkcmfokobaaGreatDoorLeafQZ
import Derived.Test.YtjlclkcmfokobaaGreatDoorShelfZ
import Derived.Lib.OwnBridge
namespace Go.Proofs.YtjlclkcmfokobaaGreatDoor
open Go.RowKit
set_option maxRecDepth 100000
def Yf(l:List Nat):List Int:=l.map fun b=>Int.ofNat b
def EN(F:PFunc)(b:Nat):List Nat:=(endsOf (F.blk b).term).map Int.toNat
theorem YdA(F:PFunc)(b:Nat):(EN F b).length≤2:=by unfold EN;rw[List.length_map];exact YkX _
theorem Yx{F:PFunc}(h:Yd F=true):Yj F=true:=by
 unfold Yd at h;simp only[Bool.and_eq_true]at h;exact h.1
theorem Y1{F:PFunc}(h:Yj F=true):1≤F.blocks.length∧F.blocks.length≤64:=by
 unfold Yj Yag at h;simp only[Bool.and_eq_true,decide_eq_true_eq]at h;exact⟨h.1.1.1.1.1.2,h.1.1.1.1.2⟩
theorem Yeh{F:PFunc}(h:Yd F=true){b:Nat}(hb:b<F.blocks.length):∀c∈endsOf (F.blk b).term,inB c F.blocks.length=true:=by
 have ht:=(Ybd (Yx h) hb).2.2;intro c hc;unfold YJ at ht;unfold endsOf at hc
 by_cases h0:(F.blk b).term.kind=0
 · rw[if_pos h0]at ht hc
   simp only[Bool.and_eq_true]at ht;simp at hc;subst hc;exact ht.1.1
 · rw[if_neg h0]at ht hc
   by_cases h1:(F.blk b).term.kind=1
   · rw[if_pos h1]at ht hc
     simp only[Bool.and_eq_true]at ht;split at hc
     · simp at hc;subst hc;exact ht.1.2
     · simp at hc
       rcases hc with hc|hc
       · subst hc;exact ht.1.2
       · subst hc;exact ht.2
   · rw[if_neg h1]at hc
     cases hc
theorem Yfy{F:PFunc}(h:Yd F=true){b:Nat}(hb:b<F.blocks.length):endsOf (F.blk b).term=Yf (EN F b):=by
 unfold Yf EN;rw[List.map_map]
 conv=>lhs;rw[← List.map_id (endsOf (F.blk b).term)]
 refine List.map_congr_left fun c hc=>?_
 have:=YQ (Yeh h hb c hc);simp;omega
theorem Yc1{F:PFunc}(h:Yd F=true){b:Nat}(hb:b<F.blocks.length):∀c∈EN F b,c<F.blocks.length:=by
 intro c hc;unfold EN at hc;obtain⟨d,hd,rfl⟩:=List.mem_map.1 hc;have:=YQ (Yeh h hb d hd);omega
def postO(F:PFunc):List Nat:=dfs (EN F) (4*F.blocks.length) ((List.replicate F.blocks.length false).set 0 true) [] [(0,0)]
theorem DfsOk.start{F:PFunc}(h:Yd F=true):DfsOk (EN F) F.blocks.length ((List.replicate F.blocks.length false).set 0 true) [] [(0,0)]:=by
 have hc:=Y1 (Yx h);refine⟨ZS,?_,fun p hp=>?_,ZS⟩
 · rw[count_set ZX (by cases F.blocks.length<;>simp[List.replicate_succ])]
   simp[List.count_replicate]
 · simp at hp;subst hp;exact⟨ZO,Nz _⟩
theorem Tryz.info3:(Tryz.prog.info? 3).map (fun i=>(i.zero,i.size,i.bytes))=some (some (.int .i64 0),1,8):=by kernel_rfl
theorem Tryz.info4:(Tryz.prog.info? 4).map (fun i=>(i.zero,i.size,i.bytes))=some (some (.bool false),1,1):=by kernel_rfl
theorem Tryz.info177:(Tryz.prog.info? 177).map (fun i=>(i.zero,i.size,i.bytes))=some (some (.agg #[.int .i64 0,.int .i64 0]),2,16):=by kernel_rfl
def RetNew(w:World)(xs:List Int)(e:Ending)(w':World):Prop:=RetInts w xs e w'∧∀A n c,e=.returned (.slice A n c)→∀b off,A=some ⟨b,off,none⟩→w.heap.size≤b
theorem RetNew.of_own{w w':World}{xs:List Int}{base:Nat}{e:TypeId}{v:Value}{n:Nat}(h:w'.ownsRow base e 1 v n (xs.map (Value.int .i64)))(hn:n≤1048576)(hB:w.heap.size≤base)(hb:Below w.heap.size w w'):RetNew w xs (.returned v) w':=
 ⟨RetInts.of_own h hn hb,fun A n' c' he b off ha=>by
   simp only[Ending.returned.injEq]at he;subst he ha
   exact Nat.le_trans hB (h.lt b rfl).1⟩
set_option maxHeartbeats 4000000 in
theorem Ylv{W w:World}{fv:Value}{F:PFunc}(hF:FnV W W.heap.size fv F)(hW:Below W.heap.size W w)(hT:Yd F=true) :
 Calls Tryz.prog 98 #[fv] w (RetNew w (Yf (postO F).reverse)):=by
 obtain⟨A0,c0,A1,c1,A2,c2,rfl,l0,l1,l2,-,-,-,r0,r1,r2⟩:=id hF.open_;obtain⟨n1,n2⟩:=Y1 (Yx hT);have HT:=Lh hT;clear hT;unfold Len at *;have hWs:=hW.size;have hb0:=(Br w.heap.size w).alloc (Nr _) (.cells #[.slice A0 F.vars.length c0,.slice A1 F.params.length c1,.slice A2 F.blocks.length c2] 26);obtain⟨ib,hib,hz0,hz1,hz2⟩:=info_parts Tryz.info4;go_enter Tryz.func98,Tryz.ntmps98
 go_wp2_with(
  at_make;refine wpList_make_full _ rfl _ _ 62 rfl (w.heap.size+1) 4 ib _ 1 Tryz.underlying62 hib hz0 hz1 _ _ _ _ _ rfl rfl rfl rfl (by rw[hz2];omega) (by unfold maxLen;omega) ZS ?_;intro w1 hs1 hg1
  have hs2:w1.ownsRow (w.heap.size+1) 4 1 (.slice (some ⟨w.heap.size+1,0,none⟩) F.blocks.length F.blocks.length) F.blocks.length ((List.replicate F.blocks.length false).map Value.bool):=by simpa[Value.cells,toList_madeCells_one]using hs1
  have hg2:(w.alloc (.cells #[.slice A0 F.vars.length c0,.slice A1 F.params.length c1,.slice A2 F.blocks.length c2] 26)).grownBy w1 none:=hg1;have hf1:=hs2.frozenAt 0;have hc1:w1.cell? ⟨w.heap.size+1,0,none⟩=some (.bool false):=by rw[hs2.cellAt 0 ZO];cases hz:F.blocks.length with
   |zero=>omega
   |succ m=>rfl
  clear hs1 hg1)
 have hbx:Below (w.heap.size+1) (w.alloc (.cells #[.slice A0 F.vars.length c0,.slice A1 F.params.length c1,.slice A2 F.blocks.length c2] 26)) w1:=(Br _ _).grown hg2 ZS (fun k hk=>by cases hk);have hw1:=hbx.size;simp at hw1;have hst:=(hs2.stored 0 (.bool true)).1;rw[show((List.replicate F.blocks.length false).map Value.bool).set 0 (.bool true)=((List.replicate F.blocks.length false).set 0 true).map Value.bool by rw[List.map_set]]at hst
 go_loopg[4,5] (4*F.blocks.length) (fun gk v4 v5 wr=>∃seen out stk,Hid (DfsOk (EN F) F.blocks.length seen out stk∧frW (EN F) stk+4*(F.blocks.length-(out.length+stk.length))≤gk∧dfs (EN F) gk seen out stk=postO F)∧
  wr.ownsRow (w.heap.size+1) 4 1 (.slice (some ⟨w.heap.size+1,0,none⟩) F.blocks.length F.blocks.length) F.blocks.length (seen.map Value.bool)∧
  wr.ownsRow (w.heap.size+1) 3 1 v4 out.length ((Yf out).map (Value.int .i64))∧wr.ownsRow (w.heap.size+1) 177 2 v5 stk.length (YaL stk)∧Below (w.heap.size+1) (w.alloc (.cells #[.slice A0 F.vars.length c0,.slice A1 F.params.length c1,.slice A2 F.blocks.length c2] 26)) wr)
 case atStart=>
  refine⟨(List.replicate F.blocks.length false).set 0 true,[],[(0,0)],⟨DfsOk.start HT.out,?_,rfl⟩,hst.alloc _,World.ownsRow_nil _ _ _ _,?_,?_⟩
  · have:=YdA F 0
    simp[frW];omega
  · have:=World.ownsRow_lit (base:=w.heap.size+1) (e:=177) (size:=2) (w1.setCell ⟨w.heap.size+1,0,none⟩ (.bool true)) #[.int .i64 0,.int .i64 0] 1 ZX ZD rfl
    simpa[YaL]using this
  · exact(hbx.setCell ZS _).alloc ZX _
 case round=>
  obtain⟨seen,out,stk,HD,hsn,hou,hsk,hb⟩:=hrel;obtain⟨hq,hq0,hq1,hq2⟩:=Yn hb;have hB:=hb0.trans (hb.mono (Nat.le_succ _));have hWr:Below W.heap.size W wr:=hW.trans (hB.mono hWs);cases stk with
  |nil=>
   have hr:=HD.out.2.2;rw[Yk5]at hr;have HR:=Lh hr;clear hr;simp only[List.length_nil]at hsk;obtain⟨A5,c5,rfl⟩:=Yp hsk;have hrm:=HD.out.1.room;simp only[List.length_nil]at hrm;cases hol:out.length with
   |zero=>
    have hnil:=List.eq_nil_of_length_eq_zero hol;subst hnil;clear hol;simp only[List.length_nil]at hou;obtain⟨A6,c6,rfl⟩:=Yp hou;go_wp2_with(go_at_call 126;refine(Tryz.slices_Reverse_int_empty _ _ _).mono ?_;rintro e w9 ⟨rfl,rfl⟩);go_ret;rw[← HR.out];exact RetNew.of_own (xs:=Yf []) hou ZD ZO hB
   |succ m=>
    rw[hol]at hou hrm;obtain⟨g6,cap6,rfl,hg6,hgl6,hc6,hcm6,hl6,hH⟩:=Lib.holds_of_ownsRow hou (by obtain⟨g,cap,rfl,_⟩:=Ydu hou;simp);have hrev:=Tryz.slices_Reverse_int g6 0 cap6 (Yf out) wr hH (by rw[hl6];omega);rw[hl6]at hrev;clear hol hH;go_wp2_with(go_at_call 126;refine hrev.mono ?_;rintro e w9 ⟨rfl,q,rfl⟩);go_ret;have hown9:=Lib.ownsRow_putRow (q:=q) hou (ys:=(Yf out).reverse) (by simpa using hl6) (Nr _);rw[List.take_of_length_le (by simp[hl6])]at hown9;rw[← HR.out,show Yf out.reverse=(Yf out).reverse by simp[Yf]];exact RetNew.of_own hown9 ZO ZO (Lib.below_putRow hB ZO)
  |cons p r=>
   obtain⟨b,k⟩:=p;obtain⟨hbn,hkn⟩:=HD.out.1.top;simp only[List.length_cons]at hsk;obtain⟨g,cap,rfl,hg0,hgl,hcp,hcm⟩:=Ydu hsk;unfold maxLen at hcm;have ct0:=(hsk.cellAt (r.length*2) ZO).trans (Yk0 (b,k) r);have ct1:=(hsk.cellAt (r.length*2+1) ZO).trans (Yk1 (b,k) r);dsimp only at ct0 ct1;obtain⟨bb,off,A3,c3,A4,c4,rfl,hbb,-,-,-,-,hy3,hy4,hy5,hy6,-⟩:=r2.blk hWr hbn;have hrm:=HD.out.1.room;simp only[List.length_cons]at hrm;have hrl:r.length<64:=by omega
   go_wp2_with fail;obtain⟨S0,hS0⟩:∃S0:World→Prop,S0=fun w'=>w'.cell? ⟨w.heap.size,2,none⟩=some (.slice (some ⟨bb,off,none⟩) F.blocks.length c2)∧w'.cell? ⟨g,r.length*2,none⟩=some (.int .i64 (b:Int))∧w'.cell? ⟨bb,off+b*7+3,none⟩=some (.int .i64 (F.blk b).term.kind)∧w'.cell? ⟨bb,off+b*7+4,none⟩=some (.int .i64 (F.blk b).term.var)∧w'.cell? ⟨bb,off+b*7+5,none⟩=some (.int .i64 (F.blk b).term.t0)∧w'.cell? ⟨bb,off+b*7+6,none⟩=some (.int .i64 (F.blk b).term.t1)∧Below wr.heap.size wr w'∧w.heap.size<w'.heap.size∧g<w'.heap.size∧bb<w'.heap.size:=⟨_,rfl⟩
   have HS0:=Lh hS0;clear hS0;have k0:=fun xw=>(WS.at HS0 xw).1
   have k1:=fun xw=>(WS.at HS0 xw).2.1
   have k2:=fun xw=>(WS.at HS0 xw).2.2.1
   have k3:=fun xw=>(WS.at HS0 xw).2.2.2.1
   have k4:=fun xw=>(WS.at HS0 xw).2.2.2.2.1
   have k5:=fun xw=>(WS.at HS0 xw).2.2.2.2.2.1
   have k6:=fun xw=>(WS.at HS0 xw).2.2.2.2.2.2.1
   have k7:=fun xw=>(WS.at HS0 xw).2.2.2.2.2.2.2.1
   have k8:=fun xw=>(WS.at HS0 xw).2.2.2.2.2.2.2.2.1
   have k9:=fun xw=>(WS.at HS0 xw).2.2.2.2.2.2.2.2.2
   refine Yz (S:=S0) [0,1,2,3,4,5,6,7,8,9,10] ZK ZK (fun _ _ _ _ _ h=>h) ?hS (fun hSc=>?_)
   case hS=>
    rw[HS0.out];exact⟨ZI,ZI,ZI,ZI,ZI,ZI,BL,ZJ,ZJ,ZJ⟩
   have hne0:Nonempty (WS S0):=⟨⟨_,hSc⟩⟩;simp only[List.map_cons,List.map_nil,Ld,Le]
   repeat
    first
    |((with_reducible refine YA ?_ ?_);exact rfl;go_big_quiet_step (fail);(try with_reducible refine wpQuiet_nil ?_);(try dsimp only))
    |((with_reducible refine YF ?_ ?_ (fun K hK=>?_))
      exact rfl;exact rfl;go_simp;(try go_wp2_with(go_at_call 48;refine(YkZ (F.blk b).term).mono ?_;(rintro e w9 ⟨A9,c9,rfl,l9,k9,r9,hb9⟩;obtain⟨hc9,hf9⟩:=Ya hb9;have hz9:=hb9.size;try simp at hz9;try have hy9:=Nl hz9;try have hx9:=Ns hy9;try have hw9:=Ns hx9)));refine hK.out _ _ ?hS (fun hSc=>?_)
      case hS=>
       first
       |exact hSc
       |(rw[HS0.out]at hSc ⊢;obtain⟨p0,p1,p2,p3,p4,p5,p6,p7,p8,p9⟩:=hSc;exact⟨ZC0,ZC1,ZC2,ZC3,ZC4,ZC5,ZL6,ZT7,ZT8,ZT9⟩)
      clear hK K)
   refine YB ?_;rw[HS0.out]at hSc;obtain⟨p0,p1,p2,p3,p4,p5,p6,p7,p8,p9⟩:=hSc;clear hne0 HS0 k0 k1 k2 k3 k4 k5 k6 k7 k8 k9;have hE:=Yfy HT.out hbn;have hEl:(endsOf (F.blk b).term).length=(EN F b).length:=by rw[hE];simp[Yf]
   have hsn9:=Yu hsn p6;have hou9:=Yu hou p6;have hsk9:=Yu hsk p6;have ct9:w9.cell? ⟨g,r.length*2+1,none⟩=some (.int .i64 (k:Int)):=(p6.cell (p:=⟨g,r.length*2+1,none⟩) hgl).trans ct1;have hB9:Below (w.heap.size+1) (w.alloc (.cells #[.slice A0 F.vars.length c0,.slice A1 F.params.length c1,.slice (some ⟨bb,off,none⟩) F.blocks.length c2] 26)) w9:=hb.trans (p6.mono ZO);obtain⟨f,rfl⟩:∃f,gk=f+1:=⟨gk-1,by have:=HD.out.2.1;simp only[frW]at this;omega⟩
   by_cases hke:k=(EN F b).length
   · have ht:((k:Int)==((endsOf (F.blk b).term).length:Int))=true:=by rw[hEl,hke];simp
     have HK:=Lh hke;have HEL:=Lh hEl;have HEE:=Lh hE;clear hke hE hEl hc9 hf9 ct1 ct0 hsn hou hsk
     go_wp2_with(
      at_builtin;refine Ydp _ rfl _ _ 23 rfl (w.heap.size+1) 3 8 Tryz.underlying23 Tryz.info3 rfl _ _ _ rfl hou9 _ ZS _ rfl rfl ZO ZD ZO ?_;intro v' w3 hown3 hg3
      have hsn3:=Yan hsn9 ((Br _ _).alloc (Nr _) _) hg3 (fun g hg=>Y5 hsn9 hou9 ZD hg);have hsk3:=Yan hsk9 ((Br _ _).alloc (Nr _) _) hg3 (fun g hg=>Y5 hsk9 hou9 ZD hg);have hB3:=Ybl hou9 hg3 hB9 (Nr _) ZO
      clear hg3)
     go_roundg f
     case measure=>omega
     case rel=>exact⟨seen,out++[b],r,⟨HD.out.1.pop,by have:=HD.out.2.1;simp only[frW,List.length_cons,List.length_append,List.length_nil]at this ⊢;omega,by rw[← Yg5 HK.out];exact HD.out.2.2⟩,hsn3,by simpa[Yf]using hown3,Yk2 hsk3,hB3⟩
   · obtain⟨c,hcc⟩:∃c,(EN F b).getD k 0=c:=⟨_,rfl⟩
     have hkl:k<(EN F b).length:=by omega
     have HWK:=Lh (show wrap64 ((k:Int)+1)=(k:Int)+1 by have:=YdA F b;unfold wrap64;omega);have hkl2:k<(endsOf (F.blk b).term).length:=by rw[hEl];exact hkl
     have hcn:c<F.blocks.length:=by
      refine Yc1 HT.out hbn c ?_;rw[← hcc,YL hkl];exact List.getElem_mem hkl
     have hith:ith (endsOf (F.blk b).term) k=(c:Int):=by
      rw[hE,ith,Yf,YL (by simpa using hkl),List.getElem_map,← hcc,YL hkl];rfl
     have ht:((k:Int)==((endsOf (F.blk b).term).length:Int))=false:=by rw[hEl,beq_eq_false_iff_ne];omega
     obtain⟨b9,off9,rfl,hb9l,hc9c⟩:=r9.int (Br _ _) hkl2;rw[hith]at hc9c;have hgne:=Y5 hsk9 hsn9 ZD (g:=g) rfl;have hgne1:w.heap.size+1≠g:=fun e=>hgne (by rw[← e];rfl)
     have hgne2:g≠w.heap.size+1:=fun e=>hgne1 e.symm
     have hfz:=hsk9.frozenAt (r.length*2+1);have hfs:=hsn9.frozenAt c;have hcs:w9.cell? ⟨w.heap.size+1,c,none⟩=some (.bool (seen.getD c false)):=by
      rw[hsn9.cellAt c ZO];have hl:=HD.out.1.len;simp[List.getElem?_eq_getElem (show c<seen.length from ZO)]
     have HK:=Lh hke;have HC:=Lh hcc;clear hke hcc hE hEl hc9 hf9 ct1 ct0 hsn hou hsk hith hgne;cases hsc:seen.getD c false
     · have HSC:=Lh hsc
       rw[hsc]at hcs;clear hsc;have hrl2:r.length+1<1048576:=by omega
       have hbs9:w.heap.size+1≤((w9.setCell ⟨g,r.length*2+1,none⟩ (.int .i64 (wrap64 ((k:Int)+1)))).setCell ⟨w.heap.size+1,c,none⟩ (.bool true)).heap.size:=by simp;omega
       have hsk4:=ownsRow_setCell_other (hsk9.stored (r.length*2+1) (.int .i64 (wrap64 ((k:Int)+1)))).1 (a:=⟨w.heap.size+1,c,none⟩) (by simpa[Value.ownBlock]using hgne2) (.bool true)
       go_wp2_with(
        at_builtin;go_loud (refine Yk4 _ rfl _ _ 178 rfl (w.heap.size+1) 177 16 Tryz.underlying178 Tryz.info177 rfl _ (r.length+1) _ rfl hsk4 _ ZS _ _ rfl rfl rfl hrl2 ZD hbs9 ?_);intro v' w3 hown3 hg3)
       go_roundg f
       case measure=>omega
       case rel=>
        have hsnX:=((ownsRow_setCell_other hsn9 (a:=⟨g,r.length*2+1,none⟩) (by simpa[Value.ownBlock]using hgne1) (.int .i64 (wrap64 ((k:Int)+1)))).stored c (.bool true)).1;have houX:=ownsRow_setCell_other (ownsRow_setCell_other hou9 (a:=⟨g,r.length*2+1,none⟩) (fun e=>Y5 hsk9 hou9 ZD rfl e) (.int .i64 (wrap64 ((k:Int)+1)))) (a:=⟨w.heap.size+1,c,none⟩) (fun e=>Y5 hsn9 hou9 ZD rfl e) (.bool true);have hBX:=(hB9.setCell (p:=⟨g,r.length*2+1,none⟩) hg0 (.int .i64 (wrap64 ((k:Int)+1)))).setCell (p:=⟨w.heap.size+1,c,none⟩) (Nr _) (.bool true);refine⟨seen.set c true,out,(c,0)::(b,k+1)::r,⟨HD.out.1.new HK.out hcn HSC.out,?_,by rw[← Yg7 HK.out HC.out HSC.out];exact HD.out.2.2⟩,?_,?_,?_,Ybl hsk4 hg3 hBX (Nr _) hbs9⟩
        · have:=HD.out.2.1
          have h2:=YdA F c;have h3:=(HD.out.1.new HK.out hcn HSC.out).room;simp only[frW,List.length_cons]at this h3 ⊢;omega
        · rw[List.map_set]
          exact Yan hsnX ((Br _ _).alloc (Nr _) _) hg3 (fun g' hg'=>Y5 hsnX hsk4 ZD hg')
        · exact Yan houX ((Br _ _).alloc (Nr _) _) hg3 (fun g' hg'=>Y5 houX hsk4 ZD hg')
        · have e:=Yg4 b k (k+1) r
          rw[HWK.out,show((k:Int)+1)=((k+1:Nat):Int)from rfl,e]at hown3;exact hown3
     · have HSC:=Lh hsc
       rw[hsc]at hcs;clear hsc;go_wp2
       go_roundg f
       case measure=>omega
       case rel=>exact⟨seen,out,(b,k+1)::r,⟨HD.out.1.old HK.out,by have:=HD.out.2.1;simp only[frW,List.length_cons]at this ⊢;omega,by rw[← Yg6 HK.out HC.out HSC.out];exact HD.out.2.2⟩,
        ownsRow_setCell_other hsn9 (by simpa[Value.ownBlock]using hgne1) _,ownsRow_setCell_other hou9 (a:=⟨g,r.length*2+1,none⟩) (fun e=>Y5 hsk9 hou9 ZD rfl e) _,
        by have:=(hsk9.stored (r.length*2+1) (.int .i64 ((k+1:Nat):Int))).1;rw[Yg4]at this;rw[HWK.out];exact this,hB9.setCell hg0 _⟩
theorem Yhk{W w:World}{fv:Value}{F:PFunc}(hF:FnV W W.heap.size fv F)(hW:Below W.heap.size W w)(hT:Yd F=true) :
 Calls Tryz.prog 98 #[fv] w (RetInts w (Yf (postO F).reverse)):=(Ylv hF hW hT).mono fun _ _ h=>h.1
end Go.Proofs.YtjlclkcmfokobaaGreatDoor
