/- The walk of single.Makers of a typed program: where each variable is made first. The walks of single.Right and of what it calls. -/
import Derived.Test.YtlhhfcleioikoaaGreatDoorMkRows
import Derived.Test.YtlhhfcleioikoaaGreatDoorUni
import Derived.Test.YtlhhfcleioikoaaGreatDoorSBe
import Derived.Test.YtlhhfcleioikoaaGreatDoorJoinE
import Derived.Test.YtlhhfcleioikoaaGreatDoorNew
namespace Go.Proofs.YtlhhfcleioikoaaGreatDoor
open Go.RowKit
set_option maxRecDepth 100000
theorem makers_take{F:PFunc}{n:Nat}(h:n<F.vars.length):(makersL F).take (n+1)=(makersL F).take n++[makerF F (n:Int)]:=by
 have h1:n<(makersL F).length:=by rw[makersL_len];exact h
 rw[List.take_succ_eq_append_getElem h1];congr 2;have:=makersL_at h;rw[List.getElem?_eq_getElem h1]at this;exact Option.some.inj this
def RetPlc(w:World)(xs:List (Int×Int))(e:Ending)(w':World):Prop:=∃A c,e=.returned (.slice A xs.length c)∧Len xs.length∧xs.length≤c∧Rd w'.heap.size A xs 2 (PlcC w')∧Below w.heap.size w w'
theorem maker_cells{w:World}{B g m cap:Nat}{row:List (Int×Int)}(h:w.ownsRow B 166 2 (.slice (some ⟨g,0,none⟩) m cap) m (row.flatMap encP++#[.int .i64 (-1),.int .i64 0].toList)) :
 w.cell? ⟨g,0,none⟩=some (.int .i64 (makerOf row).1)∧w.cell? ⟨g,1,none⟩=some (.int .i64 (makerOf row).2):=by
 have he:row.flatMap encP++#[.int .i64 (-1),.int .i64 0].toList=(row++[((-1:Int),(0:Int))]).flatMap encP:=by simp[encP]
 rw[he]at h;have h0:(row++[((-1:Int),(0:Int))])[0]?=some (makerOf row):=by
  cases row<;>rfl
 have h2:=flatP_at h0;have hc:=h.cells (g:=g) rfl;exact⟨hc _ _ h2.1,hc _ _ h2.2⟩
set_option maxHeartbeats 8000000 in
theorem makers_calls{W w:World}{fv:Value}{F:PFunc}(hU:Uni W)(hF:FnV W W.heap.size fv F)(hW:Below W.heap.size W w)(hS:Small F)(hT:typedP F=true) :
 Calls Tryz.prog 104 #[fv] w (RetPlc w (makersL F)):=by
 have hmk:=fun(w':World) (h:Below W.heap.size W w')=>makings_calls hF h hT
 have hty:=fun(w':World) (h:Below W.heap.size W w')=>typed_calls hU hF h hS
 rw[hT]at hty;replace hty:∀w',Below W.heap.size W w'→Calls Tryz.prog 96 #[fv] w' fun e w''=>e=.returned (.int .i64 0)∧Below w'.heap.size w' w'':=hty
 have nv:=typed_vars hT;have HEV:=Lib.hid (typed_sum hT (Nat.le_refl _):(evF F).length≤1024);clear hT hS;obtain⟨A0,c0,A1,c1,A2,c2,rfl,l0,l1,l2,-,-,-,-,-,-⟩:=id hF.open_;unfold Len at *;have hWs:=hW.size;have hb0:=(Below.refl w.heap.size w).alloc (Nat.le_refl _) (.cells #[.slice A0 F.vars.length c0,.slice A1 F.params.length c1,.slice A2 F.blocks.length c2] 26);go_enter Tryz.func104,Tryz.ntmps104;go_wp2_with fail;refine(hty _ BL).mono ?_;rintro e w4 ⟨rfl,hb4⟩;have hX4:Below (w.heap.size+1) (w.alloc (.cells #[.slice A0 F.vars.length c0,.slice A1 F.params.length c1,.slice A2 F.blocks.length c2] 26)) w4:=by simpa using hb4
 obtain⟨q,q0,q1,q2⟩:=box3 hX4;go_wp2_with fail;refine(hmk _ (hW.trans ((hb0.trans (hX4.mono (Nat.le_succ _))).mono hWs))).mono ?_;rintro e w5 ⟨g,B,rfl,hB5,hO5,hb5⟩;have hX5:Below (w.heap.size+1) (w.alloc (.cells #[.slice A0 F.vars.length c0,.slice A1 F.params.length c1,.slice A2 F.blocks.length c2] 26)) w5:=hX4.trans (hb5.mono (by have:=hX4.size;simpa using this));have hBw5:=hb0.trans (hX5.mono (Nat.le_succ _));have hwB:w.heap.size≤B:=by have:=hX4.size;simp at this;omega
 obtain⟨vs,hg5,hr5⟩:=hO5;rw[mkRows_len]at hg5
 have HNB:=Lib.hid (show ∀(i:Nat) (v:Value) (b:Nat),vs[i]?=some v→v.ownBlock=some b→b<w5.heap.size from fun i v b hv hb=>by
  have hi:i<(mkRows F.vars.length (evF F)).length:=by rw[← hr5.1];exact(List.getElem?_eq_some_iff.1 hv).1
  exact(own_lt (hr5.2.1 i v _ (Nat.zero_le _) hv (List.getElem?_eq_getElem hi)) hb).2)
 have HGB:=Lib.hid (show ∀b,(Value.slice (some ⟨g,0,none⟩) F.vars.length F.vars.length).ownBlock=some b→b<w5.heap.size from fun b hb=>(hg5.lt b hb).2);have hB0:=hBw5;clear hb4 hb5 hmk hty hX4 q q0 q1 q2;go_wp2
 go_loopw[3,12] (fun o i wr=>∃n:Nat,i=.int .i64 n∧n≤F.vars.length∧Below w.heap.size w wr∧w5.heap.size≤wr.heap.size∧wr.ownsRow w5.heap.size 166 2 o n (((makersL F).take n).flatMap encP)∧
  wr.ownsRow B 137 1 (.slice (some ⟨g,0,none⟩) F.vars.length F.vars.length) F.vars.length vs∧RowsE wr B 166 2 encP n vs (mkRows F.vars.length (evF F))) (fun _ i _=>F.vars.length-(intOf i).toNat)
 case atStart=>exact⟨0,rfl,Nat.zero_le _,hBw5,Nat.le_refl _,World.ownsRow_nil _ _ _ _,hg5,hr5⟩
 case round=>as_aux_lemma=>
  clear hBw5 hg5 hr5;obtain⟨n,rfl,hn,hb,hz,ho,hg,hr⟩:=hrel;obtain⟨Ao,co,rfl⟩:=own_form ho
  by_cases hlt:n<F.vars.length
  · obtain⟨v,hv,hown⟩:=hr.row (c:=n) (by rw[mkRows_len];exact hlt) (Nat.le_refl _)
    have hcv:wr.cell? ⟨g,n,none⟩=some v:=by rw[hg.cellAt n ZO];exact hv
    rw[mkRows_at hlt]at hown;obtain⟨A,c,rfl⟩:=own_form hown;obtain⟨hgB,hgl⟩:=hg.lt g rfl;have hBr:B≤wr.heap.size:=by omega
    have hwr:w5.heap.size≤wr.heap.size:=hz;have hml:(mkOf (evF F) (n:Int)).length<1048576:=by
     have h1:=mkOf_le (l:=evF F) (v:=(n:Int));have h2:(evF F).length≤1024:=HEV.out;omega
    have HT:=Lib.hid (makers_take hlt);have HMK:=Lib.hid (show makerF F (n:Int)=makerOf (mkOf (evF F) (n:Int))from rfl);generalize mkOf (evF F) (n:Int)=row at *;have hHV:=Lib.hid hv;have hHR:=Lib.hid hr;have hHG:=Lib.hid hg;have hHB:=Lib.hid hb;have fn:(n:Int)<(F.vars.length:Int):=by omega
    clear hv hr hg hb hn
    go_wp2_with(first
     |(at_builtin;refine wpList_appendF wr rfl _ _ 137 rfl B 166 2 16 Tryz.underlying137 Tryz.info166 rfl ZD (.slice A row.length c) row.length (row.flatMap encP) rfl hown _ rfl #[.int .i64 (-1),.int .i64 0] (by rfl) rfl (by intro u hu;simp at hu;rcases hu with rfl|rfl<;>rfl) ZO ZD ZO ?_
       intro v3 w3 hown3 hg3 hfr3;obtain⟨g3,cap3,rfl,hg3B,hg3l,hm3,-⟩:=own_succ hown3;obtain⟨hc30,hc31⟩:=maker_cells hown3;have hgs3:=hg3.size;simp at hgs3;have ho3:=own_grown ho ((Below.refl _ _).alloc (Nat.le_refl _) _) hg3 (fun b hb1 hb2=>by have h1:=HNB.out n _ b hHV.out hb2;have h2:=(ho.lt b hb1).1;omega)
       clear hown3 ho)
     |(at_builtin;refine wpList_appendF _ rfl (.tmp 20) (.tmp 24) 137 rfl w5.heap.size 166 2 16 Tryz.underlying137 Tryz.info166 rfl ZD _ _ _ rfl ho3 _ rfl #[.int .i64 (makerOf row).1,.int .i64 (makerOf row).2] (by rfl) rfl (by intro u hu;simp at hu;rcases hu with rfl|rfl<;>rfl) ZO ZD ZO ?_
       intro v4 w4 hown4 hg4 hfr4
       obtain⟨A4,c4,rfl⟩:=own_form hown4))
    go_roundw
    case rel=>
     have hb3:=grown_below hown hg3 hHB.out hwB hHB.out.size;have hg3':=own_grown hHG.out ((Below.refl _ _).alloc (Nat.le_refl _) _) hg3 (fun b hb hb2=>own_ne hHG.out hown ZD hb hb2);refine⟨n+1,ZN,ZO,grown_below ho3 hg4 hb3 hB0.size hb3.size,?_,?_,?_,?_⟩
     · have:=hg4.size
       simp at this;omega
     · rw[HT.out,HMK.out,List.flatMap_append]
       simpa[encP]using hown4
     · exact own_grown hg3' ((Below.refl _ _).alloc (Nat.le_refl _) _) hg4 (fun b hb hb2=>by have h1:=HGB.out b hb;have h2:=(ho3.lt b hb2).1;omega)
     · exact(hHR.out.next (Nat.le_refl _) hHV.out hg3).far HNB.out hg4 (fun b hb=>(ho3.lt b hb).1)
    case measure=>simp[intOf];omega
  · obtain rfl:n=F.vars.length:=by omega
    rw[List.take_of_length_le (by rw[makersL_len];exact Nat.le_refl _)]at ho;obtain⟨-,A9,c9,he,hl9,hk9,hr9⟩:=SPlc.of_own ho ZO;have HL:=Lib.hid (makersL_len (F:=F));simp only[Value.slice.injEq]at he;obtain⟨rfl,-,rfl⟩:=he;go_wp2;go_ret;refine⟨_,_,?_,hl9,hk9,hr9,hb⟩;rw[HL.out];rfl
end Go.Proofs.YtlhhfcleioikoaaGreatDoor
namespace Go.Proofs.YtlhhfcleioikoaaGreatDoor
open Go.RowKit
set_option maxRecDepth 100000
theorem indexB_calls{w:World}{g n c:Nat}{t:Nat→Bool}(x:Bool)(hg:g<w.heap.size)(hn:n≤64)(hc:∀i,i<n→w.cell? ⟨g,i,none⟩=some (.bool (t i))) :
 Calls Tryz.prog 127 #[.slice (some ⟨g,0,none⟩) n c,.bool x] w fun e w'=>(∃k:Int,e=.returned (.int .i64 k)∧Hid (0≤k↔∃i,i<n∧t i=x))∧w'=w:=by
 have HC:=Lib.hid hc;clear hc;go_enter Tryz.func127,Tryz.ntmps127;go_wp2
 go_loopw[8] (fun i wr=>∃j:Nat,i=.int .i64 j∧j≤n∧Hid (∀m,m<j→t m≠x)∧wr=w) (fun i _=>n-(intOf i).toNat)
 case atStart=>exact⟨0,rfl,Nat.zero_le _,fun m hm=>absurd hm (Nat.not_lt_zero _),rfl⟩
 case round=>as_aux_lemma=>
  obtain⟨j,rfl,hj,HA,rfl⟩:=hrel
  by_cases hlt:j<n
  · have hc:=HC.out j hlt
    have hjn:(j:Int)<(n:Int):=by omega
    by_cases he:t j=x
    · have HF:=Lib.hid (show(0≤(j:Int))↔∃i,i<n∧t i=x from⟨fun _=>⟨j,hlt,he⟩,fun _=>ZO⟩)
      have he':(x==t j)=true:=by simp[he]
      clear he;go_wp2;go_ret;exact⟨⟨_,rfl,HF.out⟩,rfl⟩
    · have he':(x==t j)=false:=by rw[beq_eq_false_iff_ne];exact fun e=>he e.symm
      have HE:=Lib.hid he;clear he;go_wp2;go_roundw
      case rel=>exact⟨j+1,ZN,ZO,fun m hm=>if h:m<j then HA.out m h else by
       obtain rfl:m=j:=by omega
       exact HE.out,trivial⟩
      case measure=>simp[intOf];omega
  · obtain rfl:j=n:=by omega
    have HF:=Lib.hid (show(0≤(-1:Int))↔∃i,i<j∧t i=x from⟨fun h=>absurd h ZD,fun⟨i,hi,h⟩=>absurd h (HA.out i hi)⟩);go_wp2;go_ret;exact⟨⟨_,rfl,HF.out⟩,rfl⟩
theorem containsB_calls{w:World}{g n c:Nat}{t:Nat→Bool}(x:Bool)(hg:g<w.heap.size)(hn:n≤64)(hc:∀i,i<n→w.cell? ⟨g,i,none⟩=some (.bool (t i))) :
 Calls Tryz.prog 102 #[.slice (some ⟨g,0,none⟩) n c,.bool x] w fun e w'=>e=.returned (.bool ((List.range n).any fun i=>t i==x))∧w'=w:=by
 have hi:=indexB_calls (c:=c) x hg hn hc;clear hc;have HX:=Lib.hid (show((List.range n).any fun i=>t i==x)=true↔∃i,i<n∧t i=x by simp[List.any_eq_true]);generalize ((List.range n).any fun i=>t i==x)=X at *;go_enter Tryz.func102,Tryz.ntmps102;go_wp2_with(go_at_call 127;refine hi.mono ?_;rintro e w1 ⟨⟨k,rfl,hk⟩,hw1⟩;subst w1);go_ret;refine⟨ret_bool' ?_,rfl⟩;rw[HX.out,← hk.out,decide_eq_true_eq]
theorem there_any{F:PFunc}:((List.range F.blocks.length).any fun i=>(marksL F.blocks.length (postO F).reverse).getD i false==false)=!thereB F:=by
 unfold thereB;rw[Bool.eq_iff_iff];simp only[List.any_eq_true,List.mem_range,Bool.not_eq_true',beq_iff_eq];constructor
 · rintro⟨i,hi,h⟩
   refine all_range_no hi ?_;rw[decide_eq_false_iff_not];intro hm;rw[(there_at hi).2 hm]at h;cases h
 · intro h
   rw[← Bool.not_eq_true,List.all_eq_true]at h;have:=Classical.not_forall.1 h;obtain⟨i,hi⟩:=this;rw[Classical.not_imp]at hi;obtain⟨h1,h2⟩:=hi;rw[List.mem_range]at h1;refine⟨i,h1,?_⟩;rw[← Bool.not_eq_true,there_at h1];simpa using h2
section
variable {F:PFunc} {i:Nat}
theorem single_no(h:joinedB F=false∨thereB F=false∨onceB F=false):singleB F=false:=by
 unfold singleB;rcases h with h|h|h<;>simp[h]
theorem single_be(hi:i<F.blocks.length)(h:behindB F (tabB F) i=false):singleB F=false:=by
 unfold singleB;rw[all_range_no hi h];simp
theorem single_yes(h1:joinedB F=true)(h2:thereB F=true)(h3:onceB F=true)(h:∀i,i<F.blocks.length→behindB F (tabB F) i=true):singleB F=true:=by
 unfold singleB;rw[h1,h2,h3,all_range_yes h];rfl
end
noncomputable def rightS (F:PFunc):Bool:=typedP F&&singleB F
set_option maxHeartbeats 8000000 in
theorem rightS_calls{W w:World}{fv:Value}{F:PFunc}(hU:Uni W)(hF:FnV W W.heap.size fv F)(hW:Below W.heap.size W w)(hS:Small F)(hB:Bnd F) :
 Calls Tryz.prog 68 #[fv] w fun e w'=>e=.returned (.int .i64 (errOf (rightS F)))∧Below w.heap.size w w':=by
 have hWs:=hW.size;cases hT:typedP F
 · have hj:=fun(w':World) (h:Below W.heap.size W w')=>joinedNo_calls hU hF h hS hT
   have HF:=Lib.hid (show errOf (rightS F)=3 by rw[rightS,hT];rfl);obtain⟨A0,c0,A1,c1,A2,c2,rfl,-⟩:=id hF.open_;clear hT;go_enter Tryz.func68,Tryz.ntmps68;go_wp2_with fail;refine(hj _ BL).mono ?_;(rintro e w1 ⟨rfl,hb1⟩;obtain⟨hc1,hf1⟩:=bcell hb1;have hz1:=hb1.size;try simp at hz1;try have hy1:=Nat.lt_of_succ_le hz1;try have hx1:=Nat.lt_of_succ_lt hy1;try have hw1:=Nat.lt_of_succ_lt hx1);go_wp2;go_ret;exact⟨ret_int HF.out.symm,BL⟩
 obtain⟨n1,n2⟩:=shaped_count (typed_shaped hT);have hj:=fun(w':World) (h:Below W.heap.size W w')=>joinedErr_calls hU hF h hS hT hB
 have hre:=fun(w':World) (h:Below W.heap.size W w')=>reachYes_calls hU hF h hS hT
 have hon:=fun(w':World) (h:Below W.heap.size W w')=>once_calls hF h hT
 have hne:=fun(w':World) (h:Below W.heap.size W w')=>newYes_calls hU hF h hS hT
 have hmk:=fun(w':World) (h:Below W.heap.size W w')=>makers_calls hU hF h hS hT
 have HR:=Lib.hid (show rightS F=singleB F by rw[rightS,hT];rfl);have HT:=Lib.hid hT;have HFN:=Lib.hid hF;obtain⟨A0,c0,A1,c1,A2,c2,rfl,l0,l1,l2,-⟩:=id hF.open_;unfold Len at *;have hb0:=(Below.refl w.heap.size w).alloc (Nat.le_refl _) (.cells #[.slice A0 F.vars.length c0,.slice A1 F.params.length c1,.slice A2 F.blocks.length c2] 26);obtain⟨J,hJ⟩:∃J,joinedB F=J:=⟨_,rfl⟩;rw[hJ]at hj;have HJ:=Lib.hid hJ;clear hJ hT hF;cases J
 · have HF:=Lib.hid (show errOf (rightS F)=3 by rw[HR.out,single_no (.inl HJ.out)];rfl)
   replace hj:∀w',Below W.heap.size W w'→Calls Tryz.prog 101 #[.agg #[.slice A0 F.vars.length c0,.slice A1 F.params.length c1,.slice A2 F.blocks.length c2]] w' fun e w''=>e=.returned (.int .i64 3)∧Below w'.heap.size w' w'':=hj
   go_enter Tryz.func68,Tryz.ntmps68;go_wp2_with fail;refine(hj _ BL).mono ?_;(rintro e w1 ⟨rfl,hb1⟩;obtain⟨hc1,hf1⟩:=bcell hb1;have hz1:=hb1.size;try simp at hz1;try have hy1:=Nat.lt_of_succ_le hz1;try have hx1:=Nat.lt_of_succ_lt hy1;try have hw1:=Nat.lt_of_succ_lt hx1);go_wp2;go_ret;exact⟨ret_int HF.out.symm,BL⟩
 replace hj:∀w',Below W.heap.size W w'→Calls Tryz.prog 101 #[.agg #[.slice A0 F.vars.length c0,.slice A1 F.params.length c1,.slice A2 F.blocks.length c2]] w' fun e w''=>e=.returned (.int .i64 0)∧Below w'.heap.size w' w'':=hj
 have HTA:=Lib.hid (there_any (F:=F));obtain⟨TH,hTH⟩:∃TH,thereB F=TH:=⟨_,rfl⟩;have HTH:=Lib.hid hTH;obtain⟨ON,hON⟩:∃ON,onceB F=ON:=⟨_,rfl⟩;rw[hON]at hon;have HON:=Lib.hid hON;clear hTH hON;cases TH
 · as_aux_lemma=>
   have HF:=Lib.hid (show errOf (rightS F)=3 by rw[HR.out,single_no (.inr (.inl HTH.out))];rfl);go_enter Tryz.func68,Tryz.ntmps68;go_wp2_with fail;refine(hj _ BL).mono ?_;rintro e w4 ⟨rfl,hb4⟩;have hX4:Below (w.heap.size+1) (w.alloc (.cells #[.slice A0 F.vars.length c0,.slice A1 F.params.length c1,.slice A2 F.blocks.length c2] 26)) w4:=by simpa using hb4
   have hB4:=hb0.trans (hX4.mono (Nat.le_succ _));obtain⟨q,q0,q1,q2⟩:=box3 hX4;go_wp2_with fail;refine(hre _ (hW.trans (hB4.mono hWs))).mono ?_;rintro e w5 ⟨g,rfl,ho,hb5⟩;rw[marksL_len]at ho ⊢;have hco:=containsB_calls (c:=F.blocks.length) false (ho.lt g rfl).2 n2 (fun i hi=>own_bool ho hi);rw[HTA.out,HTH.out]at hco;clear ho;go_wp2_with fail;refine hco.mono ?_;rintro e w6 ⟨rfl,hw6⟩;subst w6;go_wp2;go_ret;exact⟨ret_int HF.out.symm,hB4.trans (hb5.mono hB4.size)⟩
 cases ON
 · as_aux_lemma=>
   have HF:=Lib.hid (show errOf (rightS F)=3 by rw[HR.out,single_no (.inr (.inr HON.out))];rfl);go_enter Tryz.func68,Tryz.ntmps68;go_wp2_with fail;refine(hj _ BL).mono ?_;rintro e w4 ⟨rfl,hb4⟩;have hX4:Below (w.heap.size+1) (w.alloc (.cells #[.slice A0 F.vars.length c0,.slice A1 F.params.length c1,.slice A2 F.blocks.length c2] 26)) w4:=by simpa using hb4
   have hB4:=hb0.trans (hX4.mono (Nat.le_succ _));obtain⟨q,q0,q1,q2⟩:=box3 hX4;go_wp2_with fail;refine(hre _ (hW.trans (hB4.mono hWs))).mono ?_;rintro e w5 ⟨g,rfl,ho,hb5⟩;rw[marksL_len]at ho ⊢;have hco:=containsB_calls (c:=F.blocks.length) false (ho.lt g rfl).2 n2 (fun i hi=>own_bool ho hi);rw[HTA.out,HTH.out]at hco;have hX5:=hX4.trans (hb5.mono (by have:=hX4.size;simpa using this));have hB5:=hb0.trans (hX5.mono (Nat.le_succ _));clear ho q q0 q1 q2;obtain⟨q,q0,q1,q2⟩:=box3 hX5;go_wp2_with fail;refine hco.mono ?_;rintro e w6 ⟨rfl,hw6⟩;subst w6;go_wp2_with fail;refine(hon _ (hW.trans (hB5.mono hWs))).mono ?_;rintro e w6 ⟨rfl,hb6⟩;go_wp2;go_ret;exact⟨ret_int HF.out.symm,hB5.trans (hb6.mono hB5.size)⟩
 go_enter Tryz.func68,Tryz.ntmps68;go_wp2_with fail;refine(hj _ BL).mono ?_;rintro e w4 ⟨rfl,hb4⟩;have hX4:Below (w.heap.size+1) (w.alloc (.cells #[.slice A0 F.vars.length c0,.slice A1 F.params.length c1,.slice A2 F.blocks.length c2] 26)) w4:=by simpa using hb4
 have hB4:=hb0.trans (hX4.mono (Nat.le_succ _));obtain⟨q,q0,q1,q2⟩:=box3 hX4;go_wp2_with fail;refine(hre _ (hW.trans (hB4.mono hWs))).mono ?_;rintro e w5 ⟨g,rfl,ho,hb5⟩;rw[marksL_len]at ho ⊢;have hco:=containsB_calls (c:=F.blocks.length) false (ho.lt g rfl).2 n2 (fun i hi=>own_bool ho hi);rw[HTA.out,HTH.out]at hco;have hX5:=hX4.trans (hb5.mono (by have:=hX4.size;simpa using this));have hB5:=hb0.trans (hX5.mono (Nat.le_succ _));clear ho q q0 q1 q2;obtain⟨q,q0,q1,q2⟩:=box3 hX5;go_wp2_with fail;refine hco.mono ?_;rintro e w6 ⟨rfl,hw6⟩;subst w6;go_wp2_with fail;refine(hon _ (hW.trans (hB5.mono hWs))).mono ?_;rintro e w6 ⟨rfl,hb6⟩;have hX6:=hX5.trans (hb6.mono (by have:=hX5.size;simpa using this));have hB6:=hb0.trans (hX6.mono (Nat.le_succ _));clear q q0 q1 q2 hco;obtain⟨q,q0,q1,q2⟩:=box3 hX6;go_wp2_with fail;refine(hne _ (hW.trans (hB6.mono hWs))).mono ?_;rintro e w7 ⟨v,rfl,⟨tb,gn,gl,gk,gf,L,V,rfl,hD⟩,hb7⟩;have hX7:=hX6.trans (hb7.mono (by have:=hX6.size;simpa using this));have hB7:=hb0.trans (hX7.mono (Nat.le_succ _));clear q q0 q1 q2;obtain⟨q,q0,q1,q2⟩:=box3 hX7;go_wp2_with fail;refine(hmk _ (hW.trans (hB7.mono hWs))).mono ?_;rintro e w8 ⟨AM,cM,rfl,lM,kM,rM,hb8⟩;have hX8:=hX7.trans (hb8.mono (by have:=hX7.size;simpa using this));have hB8:=hb0.trans (hX8.mono (Nat.le_succ _));have hW8:Below W.heap.size W w8:=hW.trans (hB8.mono hWs);have hD8:=hD.keep (Kept.of_below hb8) hb8.size;have hF8:=HFN.out.keep (Kept.of_below hW8) hW8.size;have HBE:=Lib.hid (fun(w':World) (h:Below w8.heap.size w8 w') (i:Nat) (hi:i<F.blocks.length)=>behind_calls (c:=cM) hF8 h HT.out hD8 rM i hi);rw[makersL_len];clear q q0 q1 q2 hD hD8 hF8 rM hne hmk hj hre hon;obtain⟨q,q0,q1,q2⟩:=box3 hX8;go_wp2;clear q q0 q1 q2
 go_loopw[33] (fun x wr=>∃n:Nat,x=.int .i64 n∧n≤F.blocks.length∧Hid (∀m,m<n→behindB F (tabB F) m=true)∧Below w8.heap.size w8 wr) (fun x _=>F.blocks.length-(intOf x).toNat)
 case atStart=>exact⟨0,rfl,Nat.zero_le _,fun m hm=>absurd hm (Nat.not_lt_zero _),Below.refl _ _⟩
 case round=>as_aux_lemma=>
  obtain⟨i,rfl,hi',HA,hb⟩:=hrel;have hXr:=hX8.trans (hb.mono (by have:=hX8.size;simpa using this));have hBr:=hb0.trans (hXr.mono (Nat.le_succ _));obtain⟨q,q0,q1,q2⟩:=box3 hXr
  by_cases hi:i<F.blocks.length
  · have hbe:=HBE.out wr hb i hi
    have hin:(i:Int)<(F.blocks.length:Int):=by omega
    obtain⟨X,hX⟩:∃X,behindB F (tabB F) i=X:=⟨_,rfl⟩;rw[hX]at hbe;have HX:=Lib.hid hX;clear hX;cases X
    · as_aux_lemma=>
      have HF:=Lib.hid (show errOf (rightS F)=3 by rw[HR.out,single_be hi HX.out];rfl);go_wp2_with fail;refine hbe.mono ?_;rintro e w9 ⟨rfl,hb9⟩;go_wp2;go_ret;exact⟨ret_int HF.out.symm,hBr.trans (hb9.mono hBr.size)⟩
    · as_aux_lemma=>
      go_wp2_with fail;refine hbe.mono ?_;rintro e w9 ⟨rfl,hb9⟩;go_wp2;go_roundw
      case rel=>exact⟨i+1,ZN,ZO,fun t ht=>if h:t<i then HA.out t h else by
       obtain rfl:t=i:=by omega
       exact HX.out,hb.trans (hb9.mono hb.size)⟩
      case measure=>simp[intOf];omega
  · obtain rfl:i=F.blocks.length:=by omega
    have HF:=Lib.hid (show errOf (rightS F)=0 by rw[HR.out,single_yes HJ.out HTH.out HON.out HA.out];rfl);go_wp2;go_ret;exact⟨ret_int HF.out.symm,hBr⟩
end Go.Proofs.YtlhhfcleioikoaaGreatDoor
