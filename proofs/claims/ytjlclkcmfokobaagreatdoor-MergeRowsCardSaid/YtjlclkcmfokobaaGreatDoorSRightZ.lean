/- The walk of single.Makers of a typed program: where each variable is made first. -/
import Derived.Test.YtjlclkcmfokobaaGreatDoorMkRowsZ
import Derived.Test.YtjlclkcmfokobaaGreatDoorUniQZ
import Derived.Test.YtjlclkcmfokobaaGreatDoorSBeZ
import Derived.Test.YtjlclkcmfokobaaGreatDoorJoinQZ
import Derived.Test.YtjlclkcmfokobaaGreatDoorNewZ
namespace Go.Proofs.YtjlclkcmfokobaaGreatDoor
open Go.RowKit
set_option maxRecDepth 100000
theorem YnU{F:PFunc}{n:Nat}(h:n<F.vars.length):(Ybu F).take (n+1)=(Ybu F).take n++[Yi F (n:Int)]:=by
 have h1:n<(Ybu F).length:=by rw[Yeq];exact h
 rw[List.take_succ_eq_append_getElem h1];congr 2;have:=YfQ h;rw[List.getElem?_eq_getElem h1]at this;exact Option.some.inj this
def YnV(w:World)(xs:List (Int×Int))(e:Ending)(w':World):Prop:=∃A c,e=.returned (.slice A xs.length c)∧Len xs.length∧xs.length≤c∧Rd w'.heap.size A xs 2 (Yb3 w')∧Below w.heap.size w w'
theorem YnW{w:World}{B g m cap:Nat}{row:List (Int×Int)}(h:w.ownsRow B 203 2 (.slice (some ⟨g,0,none⟩) m cap) m (row.flatMap Y8++#[.int .i64 (-1),.int .i64 0].toList)) :
 w.cell? ⟨g,0,none⟩=some (.int .i64 (Yb4 row).1)∧w.cell? ⟨g,1,none⟩=some (.int .i64 (Yb4 row).2):=by
 have he:row.flatMap Y8++#[.int .i64 (-1),.int .i64 0].toList=(row++[((-1:Int),(0:Int))]).flatMap Y8:=by simp[Y8]
 rw[he]at h;have h0:(row++[((-1:Int),(0:Int))])[0]?=some (Yb4 row):=by
  cases row<;>rfl
 have h2:=YfM h0;have hc:=h.cells (g:=g) rfl;exact⟨hc _ _ h2.1,hc _ _ h2.2⟩
set_option maxHeartbeats 8000000 in
theorem YnX{W w:World}{fv:Value}{F:PFunc}(hU:Uni W)(hF:FnV W W.heap.size fv F)(hW:Below W.heap.size W w)(hS:YU F)(hT:Yd F=true) :
 Calls Tryz.prog 114 #[fv] w (YnV w (Ybu F)):=by
 have hmk:=fun(w':World) (h:Below W.heap.size W w')=>YhE hF h hT
 have hty:=fun(w':World) (h:Below W.heap.size W w')=>Yg3 hU hF h hS
 rw[hT]at hty;replace hty:∀w',Below W.heap.size W w'→Calls Tryz.prog 102 #[fv] w' fun e w''=>e=.returned (.int .i64 0)∧Below w'.heap.size w' w'':=hty
 have nv:=Yb5 hT;have HEV:=Lh (YfP hT (Nr _):(evF F).length≤1024);clear hT hS;obtain⟨A0,c0,A1,c1,A2,c2,rfl,l0,l1,l2,-,-,-,-,-,-⟩:=id hF.open_;unfold Len at *;have hWs:=hW.size;have hb0:=(Br w.heap.size w).alloc (Nr _) (.cells #[.slice A0 F.vars.length c0,.slice A1 F.params.length c1,.slice A2 F.blocks.length c2] 26);go_enter Tryz.func114,Tryz.ntmps114;go_wp2_with fail;refine(hty _ BL).mono ?_;rintro e w4 ⟨rfl,hb4⟩;have hX4:Below (w.heap.size+1) (w.alloc (.cells #[.slice A0 F.vars.length c0,.slice A1 F.params.length c1,.slice A2 F.blocks.length c2] 26)) w4:=by simpa using hb4
 obtain⟨q,q0,q1,q2⟩:=Yn hX4;go_wp2_with fail;refine(hmk _ (hW.trans ((hb0.trans (hX4.mono (Nat.le_succ _))).mono hWs))).mono ?_;rintro e w5 ⟨g,B,rfl,hB5,hO5,hb5⟩;have hX5:Below (w.heap.size+1) (w.alloc (.cells #[.slice A0 F.vars.length c0,.slice A1 F.params.length c1,.slice A2 F.blocks.length c2] 26)) w5:=hX4.trans (hb5.mono (by have:=hX4.size;simpa using this));have hBw5:=hb0.trans (hX5.mono (Nat.le_succ _));have hwB:w.heap.size≤B:=by have:=hX4.size;simp at this;omega
 obtain⟨vs,hg5,hr5⟩:=hO5;rw[YdG]at hg5
 have HNB:=Lh (show ∀(i:Nat) (v:Value) (b:Nat),vs[i]?=some v→v.ownBlock=some b→b<w5.heap.size from fun i v b hv hb=>by
  have hi:i<(Yy F.vars.length (evF F)).length:=by rw[← hr5.1];exact(List.getElem?_eq_some_iff.1 hv).1
  exact(YG (hr5.2.1 i v _ (Nz _) hv (List.getElem?_eq_getElem hi)) hb).2)
 have HGB:=Lh (show ∀b,(Value.slice (some ⟨g,0,none⟩) F.vars.length F.vars.length).ownBlock=some b→b<w5.heap.size from fun b hb=>(hg5.lt b hb).2);have hB0:=hBw5;clear hb4 hb5 hmk hty hX4 q q0 q1 q2;go_wp2
 go_loopw[3,12] (fun o i wr=>∃n:Nat,i=.int .i64 n∧n≤F.vars.length∧Below w.heap.size w wr∧w5.heap.size≤wr.heap.size∧wr.ownsRow w5.heap.size 203 2 o n (((Ybu F).take n).flatMap Y8)∧
  wr.ownsRow B 163 1 (.slice (some ⟨g,0,none⟩) F.vars.length F.vars.length) F.vars.length vs∧RowsE wr B 203 2 Y8 n vs (Yy F.vars.length (evF F))) (fun _ i _=>F.vars.length-(intOf i).toNat)
 case atStart=>exact⟨0,rfl,Nz _,hBw5,Nr _,World.ownsRow_nil _ _ _ _,hg5,hr5⟩
 case round=>as_aux_lemma=>
  clear hBw5 hg5 hr5;obtain⟨n,rfl,hn,hb,hz,ho,hg,hr⟩:=hrel;obtain⟨Ao,co,rfl⟩:=Yp ho
  by_cases hlt:n<F.vars.length
  · obtain⟨v,hv,hown⟩:=hr.row (c:=n) (by rw[YdG];exact hlt) (Nr _)
    have hcv:wr.cell? ⟨g,n,none⟩=some v:=by rw[hg.cellAt n ZO];exact hv
    rw[YdH hlt]at hown;obtain⟨A,c,rfl⟩:=Yp hown;obtain⟨hgB,hgl⟩:=hg.lt g rfl;have hBr:B≤wr.heap.size:=by omega
    have hwr:w5.heap.size≤wr.heap.size:=hz;have hml:(mkOf (evF F) (n:Int)).length<1048576:=by
     have h1:=Yen (l:=evF F) (v:=(n:Int));have h2:(evF F).length≤1024:=HEV.out;omega
    have HT:=Lh (YnU hlt);have HMK:=Lh (show Yi F (n:Int)=Yb4 (mkOf (evF F) (n:Int))from rfl);generalize mkOf (evF F) (n:Int)=row at *;have hHV:=Lh hv;have hHR:=Lh hr;have hHG:=Lh hg;have hHB:=Lh hb;have fn:(n:Int)<(F.vars.length:Int):=by omega
    clear hv hr hg hb hn
    go_wp2_with(first
     |(at_builtin;refine YcA wr rfl _ _ 163 rfl B 203 2 16 Tryz.underlying163 Tryz.info203 rfl ZD (.slice A row.length c) row.length (row.flatMap Y8) rfl hown _ rfl #[.int .i64 (-1),.int .i64 0] (by rfl) rfl (by intro u hu;simp at hu;rcases hu with rfl|rfl<;>rfl) ZO ZD ZO ?_
       intro v3 w3 hown3 hg3 hfr3;obtain⟨g3,cap3,rfl,hg3B,hg3l,hm3,-⟩:=Ydu hown3;obtain⟨hc30,hc31⟩:=YnW hown3;have hgs3:=hg3.size;simp at hgs3;have ho3:=Yan ho ((Br _ _).alloc (Nr _) _) hg3 (fun b hb1 hb2=>by have h1:=HNB.out n _ b hHV.out hb2;have h2:=(ho.lt b hb1).1;omega)
       clear hown3 ho)
     |(at_builtin;refine YcA _ rfl (.tmp 20) (.tmp 24) 163 rfl w5.heap.size 203 2 16 Tryz.underlying163 Tryz.info203 rfl ZD _ _ _ rfl ho3 _ rfl #[.int .i64 (Yb4 row).1,.int .i64 (Yb4 row).2] (by rfl) rfl (by intro u hu;simp at hu;rcases hu with rfl|rfl<;>rfl) ZO ZD ZO ?_
       intro v4 w4 hown4 hg4 hfr4
       obtain⟨A4,c4,rfl⟩:=Yp hown4))
    go_roundw
    case rel=>
     have hb3:=Ybl hown hg3 hHB.out hwB hHB.out.size;have hg3':=Yan hHG.out ((Br _ _).alloc (Nr _) _) hg3 (fun b hb hb2=>Y5 hHG.out hown ZD hb hb2);refine⟨n+1,ZN,ZO,Ybl ho3 hg4 hb3 hB0.size hb3.size,?_,?_,?_,?_⟩
     · have:=hg4.size
       simp at this;omega
     · rw[HT.out,HMK.out,List.flatMap_append]
       simpa[Y8]using hown4
     · exact Yan hg3' ((Br _ _).alloc (Nr _) _) hg4 (fun b hb hb2=>by have h1:=HGB.out b hb;have h2:=(ho3.lt b hb2).1;omega)
     · exact(hHR.out.next (Nr _) hHV.out hg3).far HNB.out hg4 (fun b hb=>(ho3.lt b hb).1)
    case measure=>simp[intOf];omega
  · obtain rfl:n=F.vars.length:=by omega
    rw[List.take_of_length_le (by rw[Yeq];exact Nr _)]at ho;obtain⟨-,A9,c9,he,hl9,hk9,hr9⟩:=SPlc.of_own ho ZO;have HL:=Lh (Yeq (F:=F));simp only[Value.slice.injEq]at he;obtain⟨rfl,-,rfl⟩:=he;go_wp2;go_ret;refine⟨_,_,?_,hl9,hk9,hr9,hb⟩;rw[HL.out];rfl
theorem YnY{w:World}{g n c:Nat}{t:Nat→Bool}(x:Bool)(hg:g<w.heap.size)(hn:n≤64)(hc:∀i,i<n→w.cell? ⟨g,i,none⟩=some (.bool (t i))) :
 Calls Tryz.prog 149 #[.slice (some ⟨g,0,none⟩) n c,.bool x] w fun e w'=>(∃k:Int,e=.returned (.int .i64 k)∧Hid (0≤k↔∃i,i<n∧t i=x))∧w'=w:=by
 have HC:=Lh hc;clear hc;go_enter Tryz.func149,Tryz.ntmps149;go_wp2
 go_loopw[8] (fun i wr=>∃j:Nat,i=.int .i64 j∧j≤n∧Hid (∀m,m<j→t m≠x)∧wr=w) (fun i _=>n-(intOf i).toNat)
 case atStart=>exact⟨0,rfl,Nz _,fun m hm=>absurd hm (Nat.not_lt_zero _),rfl⟩
 case round=>as_aux_lemma=>
  obtain⟨j,rfl,hj,HA,rfl⟩:=hrel
  by_cases hlt:j<n
  · have hc:=HC.out j hlt
    have hjn:(j:Int)<(n:Int):=by omega
    by_cases he:t j=x
    · have HF:=Lh (show(0≤(j:Int))↔∃i,i<n∧t i=x from⟨fun _=>⟨j,hlt,he⟩,fun _=>ZO⟩)
      have he':(x==t j)=true:=by simp[he]
      clear he;go_wp2;go_ret;exact⟨⟨_,rfl,HF.out⟩,rfl⟩
    · have he':(x==t j)=false:=by rw[beq_eq_false_iff_ne];exact fun e=>he e.symm
      have HE:=Lh he;clear he;go_wp2;go_roundw
      case rel=>exact⟨j+1,ZN,ZO,fun m hm=>if h:m<j then HA.out m h else by
       obtain rfl:m=j:=by omega
       exact HE.out,trivial⟩
      case measure=>simp[intOf];omega
  · obtain rfl:j=n:=by omega
    have HF:=Lh (show(0≤(-1:Int))↔∃i,i<j∧t i=x from⟨fun h=>absurd h ZD,fun⟨i,hi,h⟩=>absurd h (HA.out i hi)⟩);go_wp2;go_ret;exact⟨⟨_,rfl,HF.out⟩,rfl⟩
theorem Ygm{w:World}{g n c:Nat}{t:Nat→Bool}(x:Bool)(hg:g<w.heap.size)(hn:n≤64)(hc:∀i,i<n→w.cell? ⟨g,i,none⟩=some (.bool (t i))) :
 Calls Tryz.prog 112 #[.slice (some ⟨g,0,none⟩) n c,.bool x] w fun e w'=>e=.returned (.bool ((List.range n).any fun i=>t i==x))∧w'=w:=by
 have hi:=YnY (c:=c) x hg hn hc;clear hc;have HX:=Lh (show((List.range n).any fun i=>t i==x)=true↔∃i,i<n∧t i=x by simp[List.any_eq_true]);generalize ((List.range n).any fun i=>t i==x)=X at *;go_enter Tryz.func112,Tryz.ntmps112;go_wp2_with(go_at_call 149;refine hi.mono ?_;rintro e w1 ⟨⟨k,rfl,hk⟩,hw1⟩;subst w1);go_ret;refine⟨Yam ?_,rfl⟩;rw[HX.out,← hk.out,decide_eq_true_eq]
theorem YnZ{F:PFunc}:((List.range F.blocks.length).any fun i=>(YW F.blocks.length (postO F).reverse).getD i false==false)=!Ybh F:=by
 unfold Ybh;rw[Bool.eq_iff_iff];simp only[List.any_eq_true,List.mem_range,Bool.not_eq_true',beq_iff_eq];constructor
 · rintro⟨i,hi,h⟩
   refine YcB hi ?_;rw[decide_eq_false_iff_not];intro hm;rw[(YeG hi).2 hm]at h;cases h
 · intro h
   rw[← Bool.not_eq_true,List.all_eq_true]at h;have:=Classical.not_forall.1 h;obtain⟨i,hi⟩:=this;rw[Classical.not_imp]at hi;obtain⟨h1,h2⟩:=hi;rw[List.mem_range]at h1;refine⟨i,h1,?_⟩;rw[← Bool.not_eq_true,YeG h1];simpa using h2
section
variable {F:PFunc} {i:Nat}
theorem Ygn(h:Yai F=false∨Ybh F=false∨Yr F=false):Yak F=false:=by
 unfold Yak;rcases h with h|h|h<;>simp[h]
theorem Yn0(hi:i<F.blocks.length)(h:YH F (tabB F) i=false):Yak F=false:=by
 unfold Yak;rw[YcB hi h];simp
theorem Yn1(h1:Yai F=true)(h2:Ybh F=true)(h3:Yr F=true)(h:∀i,i<F.blocks.length→YH F (tabB F) i=true):Yak F=true:=by
 unfold Yak;rw[h1,h2,h3,YcC h];rfl
end
noncomputable def YaD (F:PFunc):Bool:=Yd F&&Yak F
set_option maxHeartbeats 8000000 in
theorem Yn2{W w:World}{fv:Value}{F:PFunc}(hU:Uni W)(hF:FnV W W.heap.size fv F)(hW:Below W.heap.size W w)(hS:YU F)(hB:Bnd F) :
 Calls Tryz.prog 75 #[fv] w fun e w'=>e=.returned (.int .i64 (YX (YaD F)))∧Below w.heap.size w w':=by
 have hWs:=hW.size;cases hT:Yd F
 · have hj:=fun(w':World) (h:Below W.heap.size W w')=>YiK hU hF h hS hT
   have HF:=Lh (show YX (YaD F)=3 by rw[YaD,hT];rfl);obtain⟨A0,c0,A1,c1,A2,c2,rfl,-⟩:=id hF.open_;clear hT;go_enter Tryz.func75,Tryz.ntmps75;go_wp2_with fail;refine(hj _ BL).mono ?_;(rintro e w1 ⟨rfl,hb1⟩;obtain⟨hc1,hf1⟩:=Ya hb1;have hz1:=hb1.size;try simp at hz1;try have hy1:=Nl hz1;try have hx1:=Ns hy1;try have hw1:=Ns hx1);go_wp2;go_ret;exact⟨Yt HF.out.symm,BL⟩
 obtain⟨n1,n2⟩:=Y1 (Yx hT);have hj:=fun(w':World) (h:Below W.heap.size W w')=>YiJ hU hF h hS hT hB
 have hre:=fun(w':World) (h:Below W.heap.size W w')=>Yms hU hF h hS hT
 have hon:=fun(w':World) (h:Below W.heap.size W w')=>Yma hF h hT
 have hne:=fun(w':World) (h:Below W.heap.size W w')=>YnD hU hF h hS hT
 have hmk:=fun(w':World) (h:Below W.heap.size W w')=>YnX hU hF h hS hT
 have HR:=Lh (show YaD F=Yak F by rw[YaD,hT];rfl);have HT:=Lh hT;have HFN:=Lh hF;obtain⟨A0,c0,A1,c1,A2,c2,rfl,l0,l1,l2,-⟩:=id hF.open_;unfold Len at *;have hb0:=(Br w.heap.size w).alloc (Nr _) (.cells #[.slice A0 F.vars.length c0,.slice A1 F.params.length c1,.slice A2 F.blocks.length c2] 26);obtain⟨J,hJ⟩:∃J,Yai F=J:=⟨_,rfl⟩;rw[hJ]at hj;have HJ:=Lh hJ;clear hJ hT hF;cases J
 · have HF:=Lh (show YX (YaD F)=3 by rw[HR.out,Ygn (.inl HJ.out)];rfl)
   replace hj:∀w',Below W.heap.size W w'→Calls Tryz.prog 111 #[.agg #[.slice A0 F.vars.length c0,.slice A1 F.params.length c1,.slice A2 F.blocks.length c2]] w' fun e w''=>e=.returned (.int .i64 3)∧Below w'.heap.size w' w'':=hj
   go_enter Tryz.func75,Tryz.ntmps75;go_wp2_with fail;refine(hj _ BL).mono ?_;(rintro e w1 ⟨rfl,hb1⟩;obtain⟨hc1,hf1⟩:=Ya hb1;have hz1:=hb1.size;try simp at hz1;try have hy1:=Nl hz1;try have hx1:=Ns hy1;try have hw1:=Ns hx1);go_wp2;go_ret;exact⟨Yt HF.out.symm,BL⟩
 replace hj:∀w',Below W.heap.size W w'→Calls Tryz.prog 111 #[.agg #[.slice A0 F.vars.length c0,.slice A1 F.params.length c1,.slice A2 F.blocks.length c2]] w' fun e w''=>e=.returned (.int .i64 0)∧Below w'.heap.size w' w'':=hj
 have HTA:=Lh (YnZ (F:=F));obtain⟨TH,hTH⟩:∃TH,Ybh F=TH:=⟨_,rfl⟩;have HTH:=Lh hTH;obtain⟨ON,hON⟩:∃ON,Yr F=ON:=⟨_,rfl⟩;rw[hON]at hon;have HON:=Lh hON;clear hTH hON;cases TH
 · as_aux_lemma=>
   have HF:=Lh (show YX (YaD F)=3 by rw[HR.out,Ygn (.inr (.inl HTH.out))];rfl);go_enter Tryz.func75,Tryz.ntmps75;go_wp2_with fail;refine(hj _ BL).mono ?_;rintro e w4 ⟨rfl,hb4⟩;have hX4:Below (w.heap.size+1) (w.alloc (.cells #[.slice A0 F.vars.length c0,.slice A1 F.params.length c1,.slice A2 F.blocks.length c2] 26)) w4:=by simpa using hb4
   have hB4:=hb0.trans (hX4.mono (Nat.le_succ _));obtain⟨q,q0,q1,q2⟩:=Yn hX4;go_wp2_with fail;refine(hre _ (hW.trans (hB4.mono hWs))).mono ?_;rintro e w5 ⟨g,rfl,ho,hb5⟩;rw[YcD]at ho ⊢;have hco:=Ygm (c:=F.blocks.length) false (ho.lt g rfl).2 n2 (fun i hi=>YaR ho hi);rw[HTA.out,HTH.out]at hco;clear ho;go_wp2_with fail;refine hco.mono ?_;rintro e w6 ⟨rfl,hw6⟩;subst w6;go_wp2;go_ret;exact⟨Yt HF.out.symm,hB4.trans (hb5.mono hB4.size)⟩
 cases ON
 · as_aux_lemma=>
   have HF:=Lh (show YX (YaD F)=3 by rw[HR.out,Ygn (.inr (.inr HON.out))];rfl);go_enter Tryz.func75,Tryz.ntmps75;go_wp2_with fail;refine(hj _ BL).mono ?_;rintro e w4 ⟨rfl,hb4⟩;have hX4:Below (w.heap.size+1) (w.alloc (.cells #[.slice A0 F.vars.length c0,.slice A1 F.params.length c1,.slice A2 F.blocks.length c2] 26)) w4:=by simpa using hb4
   have hB4:=hb0.trans (hX4.mono (Nat.le_succ _));obtain⟨q,q0,q1,q2⟩:=Yn hX4;go_wp2_with fail;refine(hre _ (hW.trans (hB4.mono hWs))).mono ?_;rintro e w5 ⟨g,rfl,ho,hb5⟩;rw[YcD]at ho ⊢;have hco:=Ygm (c:=F.blocks.length) false (ho.lt g rfl).2 n2 (fun i hi=>YaR ho hi);rw[HTA.out,HTH.out]at hco;have hX5:=hX4.trans (hb5.mono (by have:=hX4.size;simpa using this));have hB5:=hb0.trans (hX5.mono (Nat.le_succ _));clear ho q q0 q1 q2;obtain⟨q,q0,q1,q2⟩:=Yn hX5;go_wp2_with fail;refine hco.mono ?_;rintro e w6 ⟨rfl,hw6⟩;subst w6;go_wp2_with fail;refine(hon _ (hW.trans (hB5.mono hWs))).mono ?_;rintro e w6 ⟨rfl,hb6⟩;go_wp2;go_ret;exact⟨Yt HF.out.symm,hB5.trans (hb6.mono hB5.size)⟩
 go_enter Tryz.func75,Tryz.ntmps75;go_wp2_with fail;refine(hj _ BL).mono ?_;rintro e w4 ⟨rfl,hb4⟩;have hX4:Below (w.heap.size+1) (w.alloc (.cells #[.slice A0 F.vars.length c0,.slice A1 F.params.length c1,.slice A2 F.blocks.length c2] 26)) w4:=by simpa using hb4
 have hB4:=hb0.trans (hX4.mono (Nat.le_succ _));obtain⟨q,q0,q1,q2⟩:=Yn hX4;go_wp2_with fail;refine(hre _ (hW.trans (hB4.mono hWs))).mono ?_;rintro e w5 ⟨g,rfl,ho,hb5⟩;rw[YcD]at ho ⊢;have hco:=Ygm (c:=F.blocks.length) false (ho.lt g rfl).2 n2 (fun i hi=>YaR ho hi);rw[HTA.out,HTH.out]at hco;have hX5:=hX4.trans (hb5.mono (by have:=hX4.size;simpa using this));have hB5:=hb0.trans (hX5.mono (Nat.le_succ _));clear ho q q0 q1 q2;obtain⟨q,q0,q1,q2⟩:=Yn hX5;go_wp2_with fail;refine hco.mono ?_;rintro e w6 ⟨rfl,hw6⟩;subst w6;go_wp2_with fail;refine(hon _ (hW.trans (hB5.mono hWs))).mono ?_;rintro e w6 ⟨rfl,hb6⟩;have hX6:=hX5.trans (hb6.mono (by have:=hX5.size;simpa using this));have hB6:=hb0.trans (hX6.mono (Nat.le_succ _));clear q q0 q1 q2 hco;obtain⟨q,q0,q1,q2⟩:=Yn hX6;go_wp2_with fail;refine(hne _ (hW.trans (hB6.mono hWs))).mono ?_;rintro e w7 ⟨v,rfl,⟨tb,gn,gl,gk,gf,L,V,rfl,hD⟩,hb7⟩;have hX7:=hX6.trans (hb7.mono (by have:=hX6.size;simpa using this));have hB7:=hb0.trans (hX7.mono (Nat.le_succ _));clear q q0 q1 q2;obtain⟨q,q0,q1,q2⟩:=Yn hX7;go_wp2_with fail;refine(hmk _ (hW.trans (hB7.mono hWs))).mono ?_;rintro e w8 ⟨AM,cM,rfl,lM,kM,rM,hb8⟩;have hX8:=hX7.trans (hb8.mono (by have:=hX7.size;simpa using this));have hB8:=hb0.trans (hX8.mono (Nat.le_succ _));have hW8:Below W.heap.size W w8:=hW.trans (hB8.mono hWs);have hD8:=hD.keep (Kept.of_below hb8) hb8.size;have hF8:=HFN.out.keep (Kept.of_below hW8) hW8.size;have HBE:=Lh (fun(w':World) (h:Below w8.heap.size w8 w') (i:Nat) (hi:i<F.blocks.length)=>YnT (c:=cM) hF8 h HT.out hD8 rM i hi);rw[Yeq];clear q q0 q1 q2 hD hD8 hF8 rM hne hmk hj hre hon;obtain⟨q,q0,q1,q2⟩:=Yn hX8;go_wp2;clear q q0 q1 q2
 go_loopw[33] (fun x wr=>∃n:Nat,x=.int .i64 n∧n≤F.blocks.length∧Hid (∀m,m<n→YH F (tabB F) m=true)∧Below w8.heap.size w8 wr) (fun x _=>F.blocks.length-(intOf x).toNat)
 case atStart=>exact⟨0,rfl,Nz _,fun m hm=>absurd hm (Nat.not_lt_zero _),Br _ _⟩
 case round=>as_aux_lemma=>
  obtain⟨i,rfl,hi',HA,hb⟩:=hrel;have hXr:=hX8.trans (hb.mono (by have:=hX8.size;simpa using this));have hBr:=hb0.trans (hXr.mono (Nat.le_succ _));obtain⟨q,q0,q1,q2⟩:=Yn hXr
  by_cases hi:i<F.blocks.length
  · have hbe:=HBE.out wr hb i hi
    have hin:(i:Int)<(F.blocks.length:Int):=by omega
    obtain⟨X,hX⟩:∃X,YH F (tabB F) i=X:=⟨_,rfl⟩;rw[hX]at hbe;have HX:=Lh hX;clear hX;cases X
    · as_aux_lemma=>
      have HF:=Lh (show YX (YaD F)=3 by rw[HR.out,Yn0 hi HX.out];rfl);go_wp2_with fail;refine hbe.mono ?_;rintro e w9 ⟨rfl,hb9⟩;go_wp2;go_ret;exact⟨Yt HF.out.symm,hBr.trans (hb9.mono hBr.size)⟩
    · as_aux_lemma=>
      go_wp2_with fail;refine hbe.mono ?_;rintro e w9 ⟨rfl,hb9⟩;go_wp2;go_roundw
      case rel=>exact⟨i+1,ZN,ZO,fun t ht=>if h:t<i then HA.out t h else by
       obtain rfl:t=i:=by omega
       exact HX.out,hb.trans (hb9.mono hb.size)⟩
      case measure=>simp[intOf];omega
  · obtain rfl:i=F.blocks.length:=by omega
    have HF:=Lh (show YX (YaD F)=0 by rw[HR.out,Yn1 HJ.out HTH.out HON.out HA.out];rfl);go_wp2;go_ret;exact⟨Yt HF.out.symm,hBr⟩
end Go.Proofs.YtjlclkcmfokobaaGreatDoor
