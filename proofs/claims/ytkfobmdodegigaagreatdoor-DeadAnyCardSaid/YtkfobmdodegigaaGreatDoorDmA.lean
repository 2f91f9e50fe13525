/- Which instructions stay by themselves: the walks of ops.Pure, ops.Raw, dead.stays and of the document's Stays. -/
import Derived.Test.YtkfobmdodegigaaGreatDoorRefR
import Derived.Test.YtkfobmdodegigaaGreatDoorSlc
import Derived.Test.YtkfobmdodegigaaGreatDoorZed
namespace Go.Proofs.YtkfobmdodegigaaGreatDoor
open Go.RowKit
set_option maxRecDepth 100000
def staysB(o:Nat):Bool:=!([0,1,2,3,4,7,8,9,10,11,16,25,26].contains o)
def checkO(o:Nat):Bool:=decide (18≤o)&&decide (o≤24)
def pureO(o:Nat):Bool:=!checkO o&&!decide (o=14)&&!decide (o=17)&&!decide (o=15)
def rawL:List Int:=[5,6,12,13,14,15]
def rawO(o:Nat):Bool:=(List.range 6).any fun i=>rawL.getD i 0==(o:Int)
theorem stays_eq:∀o,o<27→(!pureO o||rawO o)=staysB o:=by decide +kernel
theorem checkO_calls{w:World}(o:Nat):Calls Tryz.prog 102 #[.int .i64 (o:Int)] w fun e w'=>e=.returned (.bool (checkO o))∧w'=w:=by
 by_cases h1:18≤o
 · by_cases h2:o≤24
   · have HC:=Lh (show checkO o=true by simp[checkO,h1,h2])
     have h3:decide ((18:Int)≤(o:Int))=true:=decide_eq_true ZO;have h4:decide ((o:Int)≤24)=true:=decide_eq_true ZO;go_enter Tryz.func102,Tryz.ntmps102;go_wp2;go_ret;exact⟨ret_bool HC.out.symm,rfl⟩
   · have HC:=Lh (show checkO o=false by simp[checkO,h2])
     have h3:decide ((18:Int)≤(o:Int))=true:=decide_eq_true ZO;have h4:decide ((o:Int)≤24)=false:=decide_eq_false ZO;go_enter Tryz.func102,Tryz.ntmps102;go_wp2;go_ret;exact⟨ret_bool HC.out.symm,rfl⟩
 · have HC:=Lh (show checkO o=false by simp[checkO,h1])
   have h3:decide ((18:Int)≤(o:Int))=false:=decide_eq_false ZO;go_enter Tryz.func102,Tryz.ntmps102;go_wp2;go_ret;exact⟨ret_bool HC.out.symm,rfl⟩
set_option maxHeartbeats 1000000 in
theorem pureO_calls{w:World}(o:Nat)(ho:o<27):Calls Tryz.prog 71 #[.int .i64 (o:Int)] w fun e w'=>e=.returned (.bool (pureO o))∧w'=w:=by
 have h1:=is_calls (w:=w) (o:Int);have hi:isOp (o:Int)=true:=by simp[isOp,inB];omega
 rw[hi]at h1;have h2:=checkO_calls (w:=w) o;clear hi ho;cases hc:checkO o
 · rw[hc]at h2
   by_cases e1:o=14
   · have HC:=Lh (show pureO o=false by simp[pureO,e1])
     have d1:((o:Int) !=14)=false:=by simp[e1]
     clear hc e1;go_enter Tryz.func71,Tryz.ntmps71;go_wp2_with(first|(go_at_call 101;refine h1.mono ?_;rintro e w1 ⟨rfl,rfl⟩)|(go_at_call 102;refine h2.mono ?_;rintro e w2 ⟨rfl,rfl⟩));go_ret;exact⟨ret_bool HC.out.symm,rfl⟩
   · have d1:((o:Int) !=14)=true:=by simp;omega
     by_cases e2:o=17
     · have HC:=Lh (show pureO o=false by simp[pureO,e2])
       have d2:((o:Int) !=17)=false:=by simp[e2]
       clear hc e1 e2;go_enter Tryz.func71,Tryz.ntmps71;go_wp2_with(first|(go_at_call 101;refine h1.mono ?_;rintro e w1 ⟨rfl,rfl⟩)|(go_at_call 102;refine h2.mono ?_;rintro e w2 ⟨rfl,rfl⟩));go_ret;exact⟨ret_bool HC.out.symm,rfl⟩
     · have d2:((o:Int) !=17)=true:=by simp;omega
       by_cases e3:o=15
       · have HC:=Lh (show pureO o=false by simp[pureO,e3])
         have d3:((o:Int) !=15)=false:=by simp[e3]
         clear hc e1 e2 e3;go_enter Tryz.func71,Tryz.ntmps71;go_wp2_with(first|(go_at_call 101;refine h1.mono ?_;rintro e w1 ⟨rfl,rfl⟩)|(go_at_call 102;refine h2.mono ?_;rintro e w2 ⟨rfl,rfl⟩));go_ret;exact⟨ret_bool HC.out.symm,rfl⟩
       · have HC:=Lh (show pureO o=true by simp[pureO,hc,e1,e2,e3])
         have d3:((o:Int) !=15)=true:=by simp;omega
         clear hc e1 e2 e3;go_enter Tryz.func71,Tryz.ntmps71;go_wp2_with(first|(go_at_call 101;refine h1.mono ?_;rintro e w1 ⟨rfl,rfl⟩)|(go_at_call 102;refine h2.mono ?_;rintro e w2 ⟨rfl,rfl⟩));go_ret;exact⟨ret_bool HC.out.symm,rfl⟩
 · rw[hc]at h2
   have HC:=Lh (show pureO o=false by simp[pureO,hc]);clear hc;go_enter Tryz.func71,Tryz.ntmps71;go_wp2_with(first|(go_at_call 101;refine h1.mono ?_;rintro e w1 ⟨rfl,rfl⟩)|(go_at_call 102;refine h2.mono ?_;rintro e w2 ⟨rfl,rfl⟩));go_ret;exact⟨ret_bool HC.out.symm,rfl⟩
theorem indexO_calls{w:World}{g n c:Nat}{t:Nat→Int}(x:Int)(hg:g<w.heap.size)(hn:n≤64)(hc:∀i,i<n→w.cell? ⟨g,i,none⟩=some (.int .i64 (t i))) :
 Calls Tryz.prog 119 #[.slice (some ⟨g,0,none⟩) n c,.int .i64 x] w fun e w'=>(∃k:Int,e=.returned (.int .i64 k)∧Hid (0≤k↔∃i,i<n∧t i=x))∧w'=w:=by
 have HC:=Lh hc;clear hc;go_enter Tryz.func119,Tryz.ntmps119;go_wp2
 go_loopw[8] (fun i wr=>∃j:Nat,i=.int .i64 j∧j≤n∧Hid (∀m,m<j→t m≠x)∧wr=w) (fun i _=>n-(intOf i).toNat)
 case atStart=>exact⟨0,rfl,Nz _,fun m hm=>absurd hm (Nat.not_lt_zero _),rfl⟩
 case round=>as_aux_lemma=>
  obtain⟨j,rfl,hj,HA,rfl⟩:=hrel
  by_cases hlt:j<n
  · have hc:=HC.out j hlt
    have hjn:(j:Int)<(n:Int):=by omega
    by_cases he:t j=x
    · have HF:=Lh (show(0≤(j:Int))↔∃i,i<n∧t i=x from⟨fun _=>⟨j,hlt,he⟩,fun _=>ZO⟩)
      have he':(x==t j)=true:=by simp[he]
      clear he;go_wp2;go_ret;exact⟨⟨_,rfl,HF.out⟩,rfl⟩
    · have he':(x==t j)=false:=by rw[beq_eq_false_iff_ne];exact fun e=>he e.symm
      have HE:=Lh he;clear he;go_wp2;go_roundw
      case rel=>exact⟨j+1,ZN,ZO,fun m hm=>if h:m<j then HA.out m h else by
       obtain rfl:m=j:=by omega
       exact HE.out,trivial⟩
      case measure=>simp[intOf];omega
  · obtain rfl:j=n:=by omega
    have HF:=Lh (show(0≤(-1:Int))↔∃i,i<j∧t i=x from⟨fun h=>absurd h ZD,fun⟨i,hi,h⟩=>absurd h (HA.out i hi)⟩);go_wp2;go_ret;exact⟨⟨_,rfl,HF.out⟩,rfl⟩
theorem containsO_calls{w:World}{g n c:Nat}{t:Nat→Int}(x:Int)(hg:g<w.heap.size)(hn:n≤64)(hc:∀i,i<n→w.cell? ⟨g,i,none⟩=some (.int .i64 (t i))) :
 Calls Tryz.prog 103 #[.slice (some ⟨g,0,none⟩) n c,.int .i64 x] w fun e w'=>e=.returned (.bool ((List.range n).any fun i=>t i==x))∧w'=w:=by
 have hi:=indexO_calls (c:=c) x hg hn hc;clear hc;have HX:=Lh (show((List.range n).any fun i=>t i==x)=true↔∃i,i<n∧t i=x by simp[List.any_eq_true]);generalize ((List.range n).any fun i=>t i==x)=X at *;go_enter Tryz.func103,Tryz.ntmps103;go_wp2_with(go_at_call 119;refine hi.mono ?_;rintro e w1 ⟨⟨k,rfl,hk⟩,hw1⟩;subst w1);go_ret;refine⟨ret_bool' ?_,rfl⟩;rw[HX.out,← hk.out,decide_eq_true_eq]
theorem rawO_calls{w:World}(o:Nat):Calls Tryz.prog 72 #[.int .i64 (o:Int)] w fun e w'=>e=.returned (.bool (rawO o))∧Below w.heap.size w w':=by
 have hx:=BoxAt.new w #[.int .i64 5,.int .i64 6,.int .i64 12,.int .i64 13,.int .i64 14,.int .i64 15] 47
 have hc:=containsO_calls (w:=w.alloc (.cells #[.int .i64 5,.int .i64 6,.int .i64 12,.int .i64 13,.int .i64 14,.int .i64 15] 47)) (c:=6) (g:=w.heap.size) (n:=6) (t:=fun i=>rawL.getD i 0) (o:Int) ZS ZD (fun i hi=>by
  rw[hx.cell]
  match i,hi with
  |0,_=>rfl
  |1,_=>rfl
  |2,_=>rfl
  |3,_=>rfl
  |4,_=>rfl
  |5,_=>rfl
  |k+6,h=>exact absurd h ZO)
 have HR:=Lh (show((List.range 6).any fun i=>rawL.getD i 0==(o:Int))=rawO o from rfl);generalize ((List.range 6).any fun i=>rawL.getD i 0==(o:Int))=X at *;go_enter Tryz.func72,Tryz.ntmps72;go_wp2_with(go_at_call 103;refine hc.mono ?_;rintro e w1 ⟨rfl,hw1⟩;subst w1);go_ret;exact⟨ret_bool HR.out,BL⟩
theorem staysO_calls{w:World}(o:Nat)(ho:o<27):Calls Tryz.prog 40 #[.int .i64 (o:Int)] w fun e w'=>e=.returned (.bool (staysB o))∧Below w.heap.size w w':=by
 have h1:=pureO_calls (w:=w) o ho;have h2:=rawO_calls (w:=w) o;have h3:=stays_eq o ho;cases hp:pureO o
 · rw[hp]at h1 h3
   have H3:=Lh h3;clear hp h3;go_enter Tryz.func40,Tryz.ntmps40;go_wp2_with(go_at_call 71;refine h1.mono ?_;rintro e w1 ⟨rfl,hw1⟩;subst w1);go_ret;exact⟨ret_bool (by rw[← H3.out];rfl),BL⟩
 · rw[hp]at h1 h3
   have H3:=Lh h3;clear hp h3;generalize rawO o=X at *;go_enter Tryz.func40,Tryz.ntmps40;go_wp2_with(first|(go_at_call 71;refine h1.mono ?_;rintro e w1 ⟨rfl,hw1⟩;subst w1)|(go_at_call 72;refine h2.mono ?_;rintro e w2 ⟨rfl,hb2⟩));go_ret;exact⟨ret_bool (by rw[← H3.out];rfl),BL⟩
end Go.Proofs.YtkfobmdodegigaaGreatDoor
