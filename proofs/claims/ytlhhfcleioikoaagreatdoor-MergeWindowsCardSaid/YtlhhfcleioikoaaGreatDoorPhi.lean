/- Two rows of one's own that grow in turn, in whatever order; and the walk of graph.phi: of a phi the pairs of those blocks that lead there and are reached. -/
import Derived.Test.YtlhhfcleioikoaaGreatDoorPrP
import Derived.Test.YtlhhfcleioikoaaGreatDoorSch
import Derived.Test.YtlhhfcleioikoaaGreatDoorTreeP
namespace Go.Proofs.YtlhhfcleioikoaaGreatDoor
open Go.RowKit
set_option maxRecDepth 100000
def Two(w:World)(B:Nat)(v1:Value)(xs:List Int)(v2:Value)(ys:List Int):Prop:=
 w.ownsRow B 3 1 v1 xs.length (xs.map (Value.int .i64))∧w.ownsRow B 3 1 v2 ys.length (ys.map (Value.int .i64))∧∀k,v1.ownBlock=some k→v2.ownBlock≠some k
section
variable {w w':World} {B:Nat} {v1 v2:Value} {xs ys:List Int} {x:Int} {N:Nat}
theorem Two.swap(h:Two w B v1 xs v2 ys):Two w B v2 ys v1 xs:=⟨h.2.1,h.1,fun k e2 e1=>h.2.2 k e1 e2⟩
theorem Two.alloc(h:Two w B v1 xs v2 ys)(o:Obj):Two (w.alloc o) B v1 xs v2 ys:=⟨h.1.alloc o,h.2.1.alloc o,h.2.2⟩
theorem Two.drew(h:Two w B v1 xs v2 ys):Two w.drew B v1 xs v2 ys:=h
theorem Two.set(h:Two w B v1 xs v2 ys){a:Addr}(ha:a.block<B)(u:Value):Two (w.setCell a u) B v1 xs v2 ys:=
 ⟨ownsRow_setCell_other h.1 (fun e=>by have:=(own_lt h.1 e).1;omega) _,ownsRow_setCell_other h.2.1 (fun e=>by have:=(own_lt h.2.1 e).1;omega) _,h.2.2⟩
theorem Two.nil:Two w B (.slice none 0 0) [] (.slice none 0 0) []:=⟨World.ownsRow_nil _ _ _ _,World.ownsRow_nil _ _ _ _,fun k e=>by cases e⟩
theorem Two.app(h:Two w B v1 xs v2 ys)(hc:w.cell? ⟨N,0,none⟩=some (.int .i64 x))(hn:xs.length<1048576)(hB:B≤w.heap.size) :
 ∃v' w',(Builtin.append_ #[23,23] 23 #[v1,.slice (some ⟨N,0,none⟩) 1 1]).run Tryz.prog w=.ok v' w'∧Two w' B v' (xs++[x]) v2 ys∧w.grownBy w' v1.ownBlock∧Below B w w':=by
 obtain⟨i,hi,hz,hsz,hb⟩:=info_parts Tryz.info3;have hbytes:(xs.length+1)*8≤140737488355328:=by omega
 obtain⟨v',w',hr,h2,h3,-,h4⟩:=run_append_own_at (P:=Tryz.prog) w B 23 23 3 i _ 1 8 Tryz.underlying23 hi hz hsz hb rfl ZD v1 xs.length _ h.1 ⟨N,0,none⟩ 1 1 [.int .i64 x] rfl
  (fun j u hj=>by
    match j,hj with
    |0,hj=>simp at hj;subst hj;exact hc) (by simp[Value.oneCell']) (by unfold maxLen;omega) hbytes hB
 refine⟨v',w',hr,⟨by simpa using h2,own_turn h.2.1 (fun k hk=>h3.block k (own_lt h.2.1 hk).2 (fun e=>h.2.2 k e.symm hk)),fun k hk hk2=>?_⟩,h3,⟨h3.os,h3.tape,h3.output,h3.size,fun k hk=>h3.block k ZO (fun e=>by have:=(own_lt h.1 e.symm).1;omega)⟩⟩;rcases h4 with e|e
 · rw[e]at hk
   exact h.2.2 k hk hk2
 · rw[e]at hk
   cases hk;have:=(own_lt h.2.1 hk2).2;omega
theorem wp_two{o:Oper}{a:Act}{K:Act→World→Prop}{Q:Exit→Act→World→Prop}(s z:Operand)(ho:o.op=.call { callee:=.builtin .append,args:=#[s,z],argTypes:=#[23,23] })(hty:o.type=23)
 (hs:a.eval s=v1) (hz:a.eval z=.slice (some ⟨N,0,none⟩) 1 1) (h:Two w B v1 xs v2 ys) (hc:w.cell? ⟨N,0,none⟩=some (.int .i64 x)) (hn:xs.length<1048576) (hB:B≤w.heap.size)
 (hK:∀A c w',Two w' B (.slice A (xs.length+1) c) (xs++[x]) v2 ys→w.grownBy w' v1.ownBlock→Below B w w'→K (a.put o.dst (.slice A (xs.length+1) c)) w'):o.wp Tryz.prog a w K Q:=by
 obtain⟨v',w',hr,h1,h2,h3⟩:=h.app hc hn hB;obtain⟨A,c,hv⟩:=own_form h1.1;rw[List.length_append]at hv;subst hv;exact wp_append_run s z 23 ho hs hz (by rw[hty];exact hr) (hK A c w' h1 h2 h3)
theorem keepN{r:Option Nat}{u:Value}(hg:w.grownBy w' r)(h:w.cell? ⟨N,0,none⟩=some u)(hr:r≠some N):w'.cell? ⟨N,0,none⟩=some u:=hg.cell h (fun e=>hr e.symm)
end
theorem BoxAt.put21{w:World}{g:Nat}{t:TypeId}{x a b a' b':Value}(h:BoxAt w g #[x,a,b] t):BoxAt ((w.setCell ⟨g,2,none⟩ b').setCell ⟨g,1,none⟩ a') g #[x,a',b'] t:=by
 simpa using(h.set 2 b').set 1 a'
theorem containsRd_calls{W w:World}{A:Option Addr}{c:Nat}{xs:List Int}(h:Rd W.heap.size A xs 1 (IntC W))(hW:Below W.heap.size W w)(hn:xs.length≤1048576)(z:Int) :
 Calls Tryz.prog 117 #[.slice A xs.length c,.int .i64 z] w fun e w'=>e=.returned (.bool (xs.contains z))∧w'=w:=by
 cases xs with
 |nil=>
  refine(Tryz.slices_Contains_int_empty A c z w).mono ?_;rintro e w' ⟨rfl,rfl⟩;exact⟨ZS,rfl⟩
 |cons y ys=>
  obtain⟨b,off,rfl,hb,-⟩:=h.int hW (i:=0) ZS;refine(Tryz.slices_Contains_int b off (y::ys).length c (y::ys) z w ZO ZO (fun j hj=>?_)).mono ?_
  · obtain⟨b2,o2,e,-,hc⟩:=h.int hW (i:=j) hj
    cases e;rw[hc,ith]
  · rintro e w' ⟨rfl,rfl⟩
    rw[List.take_length];exact⟨rfl,rfl⟩
theorem rowsP_move{w w':World}{A:Option Addr}{xss:List (List Int)}(h:Rd w.heap.size A xss 1 (RowC w w.heap.size))(hb:Below w.heap.size w w'):Rd w'.heap.size A xss 1 (RowC w' w'.heap.size):=
 h.keep hb.size fun _ _ _ hl hx=>by
  obtain⟨v,h1,h2⟩:=hx;exact⟨v,by rw[(Kept.of_below hb) _ _ hl];exact h1,h2.keep (Kept.of_below hb) hb.size⟩
end Go.Proofs.YtlhhfcleioikoaaGreatDoor
