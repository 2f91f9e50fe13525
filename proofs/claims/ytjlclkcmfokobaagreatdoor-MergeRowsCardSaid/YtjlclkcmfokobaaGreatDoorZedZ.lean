/- Names for the tactics that close a goal: each is a theorem whose hypothesis has the tactic as its default. -/
import Derived.OrdersHeld
import Derived.Deep.RegionHeld
import Derived.Deep.QuietTactic
import Derived.BigQuiet
import Derived.WalkKit
import Derived.WalkSpells
import Derived.WalkLawsBesides
import Derived.Lib.Hide
namespace Go.Proofs.YtjlclkcmfokobaaGreatDoor
theorem Lh {p : Prop} (h : p) : RowKit.Hid p := h
theorem Ns {n m : Nat} (h : n.succ < m) : n < m := Nat.lt_of_succ_lt h
theorem Nl {n m : Nat} (h : n.succ ≤ m) : n < m := h
theorem La {α : Type} (l : List α) (i : Nat) (a : α) : l.toArray.setIfInBounds i a = (l.set i a).toArray := List.setIfInBounds_toArray l i a
theorem Lc {α : Type} {a x : α} {l : List α} {n : Nat} : (a :: l).set (n + 1) x = a :: l.set n x := rfl
theorem Lz {α : Type} {a x : α} {l : List α} : (a :: l).set 0 x = x :: l := rfl
theorem Ld {α : Type} {a x : α} {l : List α} {n : Nat} : (a :: l).getD (n + 1) x = l.getD n x := rfl
theorem Le {α : Type} {a x : α} {l : List α} : (a :: l).getD 0 x = a := rfl
theorem Nr (n : Nat) : n ≤ n := Nat.le.refl
theorem Br (B : Nat) (w : World) : RowKit.Below B w w := RowKit.Below.refl B w
theorem Nt {n m k : Nat} (h : n < m) (g : m ≤ k) : n < k := Nat.lt_of_lt_of_le h g
theorem Nz (n : Nat) : 0 ≤ n := Nat.zero_le n
theorem ZA{P:Prop}(h:P:=by assumption):P:=h
theorem ZB{P:Prop}(h:P:=by first|assumption|omega):P:=h
theorem ZI{P:Prop}(h:P:=by first|assumption|(go_keep;done)|(go_simp;done)):P:=h
theorem ZJ{P:Prop}(h:P:=by first|omega|(rw[heap_drew];omega)|(simp;done)|(simp;omega)):P:=h
theorem ZC{P:Prop}(h:P:=by first|assumption|(go_keep;done)|(go_simp;done)|(simp;omega)):P:=h
theorem ZT{P:Prop}(h:P:=by first|omega|(simp;done)|(simp;omega)):P:=h
theorem ZO{P:Prop}(h:P:=by omega):P:=h
theorem ZD{P:Prop}(h:P:=by decide):P:=h
theorem ZK{P:Prop}(h:P:=by kernel_rfl):P:=h
theorem ZN{P:Prop}(h:P:=by go_num):P:=h
theorem ZS{P:Prop}(h:P:=by simp):P:=h
theorem ZU{P:Prop}(h:P:=by rw[upd_ne (by decide)]at hx;exact hx):P:=h
theorem ZP{P:Prop}(h:P:=by(focus repeat(first|exact HK.out|refine Kp.drewN ?_ _|refine Kp.drew ?_|refine Kp.alloc ?_ _))):P:=h
theorem ZX{P:Prop}(h:P:=by simp;omega):P:=h
theorem ZE{P:Prop}(h:P:=by first|exact Below.refl _ _|exact(Below.refl _ _).drew):P:=h
theorem ZC0{P:Prop}(h:P:=by first|exact(hc9 _ _ ZB).trans p0|exact ZC):P:=h
theorem ZC1{P:Prop}(h:P:=by first|exact(hc9 _ _ ZB).trans p1|exact ZC):P:=h
theorem ZC2{P:Prop}(h:P:=by first|exact(hc9 _ _ ZB).trans p2|exact ZC):P:=h
theorem ZC3{P:Prop}(h:P:=by first|exact(hc9 _ _ ZB).trans p3|exact ZC):P:=h
theorem ZC4{P:Prop}(h:P:=by first|exact(hc9 _ _ ZB).trans p4|exact ZC):P:=h
theorem ZC5{P:Prop}(h:P:=by first|exact(hc9 _ _ ZB).trans p5|exact ZC):P:=h
theorem ZC6{P:Prop}(h:P:=by first|exact(hc9 _ _ ZB).trans p6|exact ZC):P:=h
theorem ZT2{P:Prop}(h:P:=by first|exact Nat.lt_of_lt_of_le p2 hb9.size|exact ZT):P:=h
theorem ZT3{P:Prop}(h:P:=by first|exact Nat.lt_of_lt_of_le p3 hb9.size|exact ZT):P:=h
theorem ZT6{P:Prop}(h:P:=by first|exact Nat.lt_of_lt_of_le p6 hb9.size|exact ZT):P:=h
theorem ZT7{P:Prop}(h:P:=by first|exact Nat.lt_of_lt_of_le p7 hb9.size|exact ZT):P:=h
theorem ZT8{P:Prop}(h:P:=by first|exact Nat.lt_of_lt_of_le p8 hb9.size|exact ZT):P:=h
theorem ZT9{P:Prop}(h:P:=by first|exact Nat.lt_of_lt_of_le p9 hb9.size|exact ZT):P:=h
theorem ZL1{P:Prop}(h:P:=by first|exact p1.trans (hb9.mono (by have:=p1.size;first|omega|(simp at this ⊢;omega)))|exact BL):P:=h
theorem ZL6{P:Prop}(h:P:=by first|exact p6.trans (hb9.mono (by have:=p6.size;first|omega|(simp at this ⊢;omega)))|exact BL):P:=h
theorem ZL7{P:Prop}(h:P:=by first|exact p7.trans (hb9.mono (by have:=p7.size;first|omega|(simp at this ⊢;omega)))|exact BL):P:=h
end Go.Proofs.YtjlclkcmfokobaaGreatDoor
namespace Go.Proofs.YtjlclkcmfokobaaGreatDoor
open Go
structure WS (S:World→Prop) where
 w:World
 h:S w
theorem WS.at{S T:World→Prop}(h:RowKit.Hid (S=T))(x:WS S):T x.w:=cast (congrFun h.out x.w) x.h
def Ybk(o:Oper):Bool:=
 match o.op with
 |.call c=>(match c.callee with|.builtin .len|.builtin .cap=>false|_=>true)
 |.move _|.assign _|.pick ..|.nilCheck _|.binOp ..|.unOp ..|.convert ..|.fieldAddr ..|.field ..|.indexAddr ..|.index ..|.extract ..|.slice ..|.build ..|.load ..|.makeFunc ..=>false
 |_=>true
section
variable {P:Program} {ops:Array Oper} {Q:Exit→Act→World→Prop} {S:World→Prop}
def Ycc(P:Program)(s:Sem Next):Prop:=∀w n w',s.run P w=.ok n w'→∃v,n=.value v
theorem YbV{α:Type}{s:Sem α}{t:α→Sem Next}(h:∀x,Ycc P (t x)):Ycc P (s >>= t):=by
 intro w n w' hr;rw[Sem.run_bind]at hr;cases h1:s.run P w with
 |ok v w1=>rw[h1]at hr;exact h v w1 n w' hr
 |halt x w1=>rw[h1]at hr;simp[Result.andThen]at hr
theorem YbW(v:Value):Ycc P (pure (.value v)):=fun w n w' h=>by
 simp[pure]at h;exact⟨v,h.1.symm⟩
theorem YjT(x:Halt):Ycc P (.halt x):=fun w n w' h=>by simp[Sem.run]at h
theorem Yd3:Ycc P (runtimePanic .nilDeref):=YbV fun _=>YjT _
theorem YjU{ρ:Operand→Value}{o:Oper}(he:Ybk o=false):Ycc P (execOp ρ o):=by
 unfold Ybk at he;unfold execOp;cases ho:o.op<;>rw[ho]at he<;>simp only[Bool.true_eq_false]at he<;>simp only[]
 case call c=>
  obtain⟨cal,args,ats⟩:=c;cases cal<;>simp only[Bool.true_eq_false]at he;rename_i b;cases b<;>simp only[Bool.true_eq_false]at he
  · exact(YbV (fun _=>YbW _):Ycc P (builtin .cap ats o.type _ (args.map ρ)))
  · exact(YbV (fun _=>YbW _):Ycc P (builtin .len ats o.type _ (args.map ρ)))
 case nilCheck x=>
  split
  · exact Yd3
  · exact Yd3
  · exact Yd3
  · split
    · exact Yd3
    · exact YbV fun _=>YbV fun _=>by
       split
       · exact YbV fun _=>YbW _
       · exact YbW _
    · exact YbW _
  · exact YbW _
 all_goals first|exact YbW _|exact YbV fun _=>YbW _|exact YbV fun _=>YbV fun _=>YbW _
theorem Ydl{o:Oper}{a:Act}{K:Act→Prop}(he:Ybk o=false)(hw:Region.wanted o (yielded ops a.tmps)=true)(h:o.quiet P a (fun w'=>∃x:WS S,w'=x.w) K) :
 ∃v,YieldsIf P ops S o v a∧K (a.put o.dst v):=by
 obtain⟨v,hv,hK⟩:=h;refine⟨v,.inl ⟨hw,fun w hS=>?_⟩,hK⟩;have h1:=hv w ⟨⟨w,hS⟩,rfl⟩;unfold Oper.quietAt at h1;have hl:=YjU (P:=P) (ρ:=a.eval) he w;cases hr:(execOp a.eval o).run P w with
 |ok n w'=>
  obtain⟨u,rfl⟩:=hl _ _ hr;rw[hr]at h1;obtain⟨rfl,rfl⟩:=h1;rfl
 |halt x w'=>rw[hr]at h1;exact h1.elim
def Yal(P:Program)(ops:Array Oper)(Q:Exit→Act→World→Prop)(S:World→Prop):List Oper→Act→World→Prop
 |[],a,w=>Q .normal a w
 |o::l,a,w=>
  if Region.wanted o (yielded ops a.tmps)=true then
   (if Ybk o=true then o.wp P a w (fun a' w'=>S w'∧Yal P ops Q S l a' w') Q else o.quiet P a (fun w'=>∃x:WS S,w'=x.w) (fun a'=>Yal P ops Q S l a' w))
  else Yal P ops Q S l (a.put o.dst undef) w
theorem YbX(hQ:∀c a (d:Tmp) v w,Q (.panic c) (Act.put a (some d) v) w→Q (.panic c) a w){d:Option Tmp}{v:Value}:∀c a w,Q (.panic c) (Act.put a d v) w→Q (.panic c) a w:=fun c a w h=>by
 cases d with
 |none=>exact h
 |some d=>exact hQ c a d v w h
def Ydm(md:Region.Mode)(ops:Array Oper):List Nat→Array Bool→Bool
 |[],listed=>(Region.ready md ops listed).isEmpty
 |i::l,listed=>(match ops[i]? with
  |none=>false
  |some o=>if Ybk o then Region.ready md ops listed==[i] else Region.free md ops listed i&&(Region.ready md ops listed).contains i)&&Ydm md ops l (listed.setIfInBounds i true)
theorem Ydn{md:Region.Mode}(hs:Region.noSelect ops=true)(hQ:∀c a (d:Tmp) v w,Q (.panic c) (Act.put a (some d) v) w→Q (.panic c) a w) :
 ∀(l:List Nat) (L:List Oper) (listed:Array Bool) (a:Act) (w:World),l.map (fun i=>ops[i]?)=L.map some→Ydm md ops l listed=true→S w→Yal P ops Q S L a w→wpAnyH P md ops Q S l.length listed a w
 |[],L,listed,a,w,hL,hB,hS,h=>by
  cases L with
  |cons o L=>simp at hL
  |nil=>exact⟨by simpa[Ydm]using hB,h⟩
 |i::l,L,listed,a,w,hL,hB,hS,h=>by
  cases L with
  |nil=>simp at hL
  |cons o L=>
   simp only[List.map_cons,List.cons.injEq]at hL;obtain⟨hi,hL⟩:=hL;simp only[Ydm,hi,Bool.and_eq_true]at hB;obtain⟨hB0,hB1⟩:=hB;unfold Yal at h;cases he:Ybk o with
   |false=>
    rw[he]at h hB0;simp only[Bool.false_eq_true,if_false,Bool.and_eq_true]at h hB0
    by_cases hw:Region.wanted o (yielded ops a.tmps)=true
    · rw[if_pos hw]at h
      obtain⟨v,hy,hK⟩:=Ydl he hw h;exact wpAnyH_take hi hs hB0.1 hB0.2 (YbX hQ) hy hS (Ydn hs hQ l L _ _ _ hL hB1 hS hK)
    · rw[if_neg hw]at h
      exact wpAnyH_take hi hs hB0.1 hB0.2 (YbX hQ) (.inr ⟨by simpa using hw,rfl⟩) hS (Ydn hs hQ l L _ _ _ hL hB1 hS h)
   |true=>
    rw[he]at h hB0;simp only[if_true,beq_iff_eq]at h hB0;refine wpAnyH_all hB0 (by simp) (fun j hj=>?_);obtain rfl:j=i:=by simpa using hj
    unfold wpOp;simp only[hi]
    by_cases hw:Region.wanted o (yielded ops a.tmps)=true
    · rw[if_pos hw]at h
      rw[if_pos hw];exact .inl (Oper.wp_mono (fun a' w' h'=>⟨h'.1,Ydn hs hQ l L _ _ _ hL hB1 h'.1 h'.2⟩) h)
    · rw[if_neg hw]at h
      rw[if_neg hw];exact⟨hS,Ydn hs hQ l L _ _ _ hL hB1 hS h⟩
theorem Yz{id:Nat}{a:Act}{w:World}{l:List Oper}(sch:List Nat)(hm:P.follows .mixedOrders=true)
 (hB:(Region.noSelect l.toArray&&Ydm .any l.toArray sch (Array.replicate l.length false)&&(sch.length==l.length)&&sch.all (fun i=>decide (i<l.length)))=true)
 (hQ:∀c a (d:Tmp) v w,Q (.panic c) (Act.put a (some d) v) w→Q (.panic c) a w)
 (hS:S w.drew) (h:S w.drew→Yal P l.toArray Q S (sch.map fun i=>l.getD i default) a w.drew):(Code.region id l.toArray true).wp P Q a w:=by
 simp only[Bool.and_eq_true,beq_iff_eq]at hB;obtain⟨⟨⟨h1,h2⟩,h3⟩,h4⟩:=hB;have hL:sch.map (fun i=>l.toArray[i]?)=(sch.map fun i=>l.getD i default).map some:=by
  rw[List.map_map];refine List.map_congr_left fun i hi=>?_
  have:i<l.length:=by simpa using List.all_eq_true.1 h4 i hi
  simp[this]
 refine wp_region_held (S:=S) hm ?_;have:=Ydn (md:=.any) h1 hQ sch _ _ a w.drew hL h2 hS (h hS);rw[h3]at this;simpa using this
theorem YjV{a:Act}{w:World}{L1 L2:List Oper}:∀(_:L1.all (fun o=>!Ybk o)=true) (_:wpQuiet P ops (fun w'=>∃x:WS S,w'=x.w) (fun a'=>Yal P ops Q S L2 a' w) L1 a),Yal P ops Q S (L1++L2) a w:=by
 induction L1 generalizing a with
 |nil=>intro _ h;exact h
 |cons o l ih=>
  intro he h;simp only[List.all_cons,Bool.and_eq_true,Bool.not_eq_true']at he;show Yal P ops Q S (o::(l++L2)) a w;unfold Yal;unfold wpQuiet at h;rw[he.1]
  by_cases hw:Region.wanted o (yielded ops a.tmps)=true
  · rw[if_pos hw]at h
    rw[if_pos hw,if_neg (by decide)];exact Oper.quiet_mono (fun a' h'=>ih (by simpa using he.2) h') h
  · rw[if_neg hw]at h
    rw[if_neg hw];exact ih (by simpa using he.2) h
theorem YA{a:Act}{w:World}{o:Oper}{L:List Oper}(he:Ybk o=false)(h:wpQuiet P ops (fun w'=>∃x:WS S,w'=x.w) (fun a'=>Yal P ops Q S L a' w) [o] a):Yal P ops Q S (o::L) a w:=
 YjV (L1:=[o]) (L2:=L) (by simp[he]) h
theorem YF{a:Act}{w:World}{o:Oper}{L:List Oper}(he:Ybk o=true)(hw:Region.wanted o (yielded ops a.tmps)=true)
 (h:∀K:Act→World→Prop,Shut (∀a w,S w→(S w→Yal P ops Q S L a w)→K a w)→o.wp P a w K Q):Yal P ops Q S (o::L) a w:=by
 unfold Yal;rw[if_pos hw,if_pos he];exact h _ (fun a w h1 h2=>⟨h1,h2 h1⟩)
theorem Ydo{a:Act}{w:World}{o:Oper}{L:List Oper}(hw:Region.wanted o (yielded ops a.tmps)=false)(h:Yal P ops Q S L (a.put o.dst undef) w):Yal P ops Q S (o::L) a w:=by
 unfold Yal;rw[if_neg (by rw[hw];decide)];exact h
theorem YB{a:Act}{w:World}(h:Q .normal a w):Yal P ops Q S [] a w:=h
end
end Go.Proofs.YtjlclkcmfokobaaGreatDoor
