/- The plain law of the reference's Shaped: it asks what the program's asks. -/
import Derived.Test.YthhjlbflpjhahaaGreatDoorTypedN
import Derived.Test.YthhjlbflpjhahaaGreatDoorSchN
namespace Go.Proofs.YthhjlbflpjhahaaGreatDoor
open Go.RowKit
set_option maxRecDepth 100000
def vtB(F:PFunc)(n:Nat):Bool:=(F.vars.drop n).all (fun v=>YaI v.ty)&&YN ((vnames F).take n) ((vnames F).drop n)
def btB(F:PFunc)(n s:Nat):Bool:=YN ((bnames F).take n) ((bnames F).drop n)&&(F.blocks.drop n).all (Y7 F)&&decide (s+Yau (F.blocks.drop n)≤1024)
def Ycp(F:PFunc):Bool:=decide (F.vars.length≤512)&&decide (F.params.length≤8)&&decide (F.params.length≤F.vars.length)&&decide (1≤F.blocks.length)&&decide (F.blocks.length≤64)
theorem YfP(F:PFunc):Yf F=(Ycp F&&Yak F.params 0&&vtB F 0&&btB F 0 0):=by
 unfold Yf Y6 Ycp vtB btB;rw[Bool.eq_iff_iff];simp only[Bool.and_eq_true,decide_eq_true_eq,List.drop_zero,List.take_zero,Nat.zero_add];constructor
 · rintro⟨⟨⟨⟨⟨⟨⟨⟨⟨⟨h1,h2⟩,h3⟩,h4⟩,h5⟩,h6⟩,h7⟩,h8⟩,h9⟩,h10⟩,h11⟩
   exact⟨⟨⟨⟨⟨⟨⟨h3,h4⟩,h5⟩,h6⟩,h7⟩,h2⟩,h1,h8⟩,⟨h9,h10⟩,h11⟩
 · rintro⟨⟨⟨⟨⟨⟨⟨h3,h4⟩,h5⟩,h6⟩,h7⟩,h2⟩,h1,h8⟩,⟨h9,h10⟩,h11⟩
   exact⟨⟨⟨⟨⟨⟨⟨⟨⟨⟨h1,h2⟩,h3⟩,h4⟩,h5⟩,h6⟩,h7⟩,h8⟩,h9⟩,h10⟩,h11⟩
theorem YiI{F:PFunc}{n:Nat}(h:n<F.vars.length):(vnames F).drop n=(F.var n).name::(vnames F).drop (n+1):=by
 unfold vnames;rw[← List.map_drop,Ydq h,List.map_cons,List.map_drop]
theorem YiJ{F:PFunc}{n:Nat}(h:n<F.blocks.length):(bnames F).drop n=(F.blk n).name::(bnames F).drop (n+1):=by
 unfold bnames;rw[← List.map_drop,YbX h,List.map_cons,List.map_drop]
theorem YiK{F:PFunc}{n:Nat}(h:n<F.vars.length):vtB F n=(Yar (F.var n).name&&YaI (F.var n).ty&&!(YK ((vnames F).take n) (F.var n).name)&&vtB F (n+1)):=by
 unfold vtB;rw[Ydq h,YiI h,Yea h,List.all_cons,YN,Bool.eq_iff_iff];simp only[Bool.and_eq_true];constructor
 · rintro⟨⟨h1,h2⟩,⟨h3,h4⟩,h5⟩;exact⟨⟨⟨h3,h1⟩,h4⟩,h2,h5⟩
 · rintro⟨⟨⟨h3,h1⟩,h4⟩,h2,h5⟩;exact⟨⟨h1,h2⟩,⟨h3,h4⟩,h5⟩
theorem YiL{F:PFunc}{n:Nat}(h:F.vars.length≤n):vtB F n=true:=by
 unfold vtB;rw[List.drop_eq_nil_of_le h,List.drop_eq_nil_of_le (by simpa[vnames]using h)];rfl
theorem YiM{F:PFunc}{n s:Nat}(h:n<F.blocks.length):btB F n s=(Yar (F.blk n).name&&!(YK ((bnames F).take n) (F.blk n).name)&&Y7 F (F.blk n)&&btB F (n+1) (s+((F.blk n).phis.length+(F.blk n).insts.length))):=by
 unfold btB;rw[YbX h,YiJ h,Yeb h,List.all_cons,YN,Yau,Nat.add_assoc s,Bool.eq_iff_iff];simp only[Bool.and_eq_true];constructor
 · rintro⟨⟨⟨⟨h1,h2⟩,h3⟩,h4,h5⟩,h6⟩;exact⟨⟨⟨h1,h2⟩,h4⟩,⟨h3,h5⟩,h6⟩
 · rintro⟨⟨⟨h1,h2⟩,h4⟩,⟨h3,h5⟩,h6⟩;exact⟨⟨⟨⟨h1,h2⟩,h3⟩,h4,h5⟩,h6⟩
theorem YiN{F:PFunc}{n s:Nat}(h:F.blocks.length≤n)(hs:s≤1024):btB F n s=true:=by
 unfold btB;rw[List.drop_eq_nil_of_le h,List.drop_eq_nil_of_le (by simpa[bnames]using h)];simp[YN,Yau,hs]
theorem YiO{F:PFunc}{n s:Nat}(h:¬s≤1024):btB F n s=false:=by
 unfold btB;rw[show decide (s+Yau (F.blocks.drop n)≤1024)=false from ZX,Bool.and_false]
theorem YiP{F:PFunc}{k:Nat}(h:k<F.vars.length)(s:ByteArray):YK ((vnames F).take (k+1)) s=(YK ((vnames F).take k) s||decide ((F.var k).name=s)):=by
 unfold YK;rw[Yea h,List.any_append];simp
theorem YiQ{F:PFunc}{k:Nat}(h:k<F.blocks.length)(s:ByteArray):YK ((bnames F).take (k+1)) s=(YK ((bnames F).take k) s||decide ((F.blk k).name=s)):=by
 unfold YK;rw[Yeb h,List.any_append];simp
theorem YfQ{l:List ByteArray}{k n:Nat}{s:ByteArray}(hk:k≤n)(h:YK (l.take k) s=true):YK (l.take n) s=true:=by
 unfold YK at *;rw[List.any_eq_true]at *;obtain⟨x,hx,h⟩:=h;refine⟨x,?_,h⟩;have:l.take k=(l.take n).take k:=by rw[List.take_take,Nat.min_eq_left hk]
 rw[this]at hx;exact List.mem_of_mem_take hx
theorem YfR{t:Int}(h:t<0∨2<t):YaI t=false:=by
 unfold YaI;simp only[Bool.or_eq_false_iff,decide_eq_false_iff_not];omega
theorem YiR{t:Int}(h:0≤t)(h2:t≤2):YaI t=true:=by
 unfold YaI;simp only[Bool.or_eq_true,decide_eq_true_eq];omega
def Ya6(F:PFunc)(x:PPhi)(j:Nat):Bool:=(x.args.drop j).all (fun v=>inB v F.vars.length)&&(x.froms.drop j).all (fun v=>inB v F.blocks.length)
theorem YiS{F:PFunc}{x:PPhi}{j:Nat}(h:j<x.args.length)(h2:j<x.froms.length):Ya6 F x j=(inB (ith x.args j) F.vars.length&&inB (ith x.froms j) F.blocks.length&&Ya6 F x (j+1)):=by
 unfold Ya6;rw[Yat h,Yat h2,List.all_cons,List.all_cons,Bool.eq_iff_iff];simp only[Bool.and_eq_true];constructor
 · rintro⟨⟨h1,h2⟩,h3,h4⟩;exact⟨⟨h1,h3⟩,h2,h4⟩
 · rintro⟨⟨h1,h3⟩,h2,h4⟩;exact⟨⟨h1,h2⟩,h3,h4⟩
theorem YiT{F:PFunc}{x:PPhi}{j:Nat}(h:x.args.length≤j)(h2:x.froms.length≤j):Ya6 F x j=true:=by
 unfold Ya6;rw[List.drop_eq_nil_of_le h,List.drop_eq_nil_of_le h2];rfl
theorem YiU(F:PFunc)(x:PPhi):Yw F x=(inB x.dst F.vars.length&&decide (x.args.length=x.froms.length)&&decide (1≤x.args.length)&&Ya6 F x 0):=by
 unfold Yw Ya6 Yq Ycm;rw[Bool.eq_iff_iff];simp only[Bool.and_eq_true,decide_eq_true_eq,List.drop_zero];constructor
 · rintro⟨⟨⟨⟨h1,h2⟩,h3⟩,h4⟩,h5⟩;exact⟨⟨⟨h3,h2⟩,ZO⟩,h4,h5⟩
 · rintro⟨⟨⟨h3,h2⟩,h1⟩,h4,h5⟩;exact⟨⟨⟨⟨ZO,h2⟩,h3⟩,h4⟩,h5⟩
theorem YiV(F:PFunc)(b:PBlock):Y7 F b=(b.phis.all (Yw F)&&b.insts.all (Yg F)&&YE F b.term):=by
 unfold Y7;rw[List.not_any_eq_all_not,List.not_any_eq_all_not];simp
theorem YfS:∀n,n<27→((kindAt n).2.1.length=(YD (n:Int)).length∧((kindAt n).2.2=[]↔YX (n:Int)=false)∧((kindAt n).1=[99,111,110,115,116]↔(n:Int)=0)∧((kindAt n).1=[112,105]↔(n:Int)=25)∧((kindAt n).1=[99,111,112,121]↔(n:Int)=1))∧
 (∀i,i<(kindAt n).2.1.length→YW (((kindAt n).2.1.getD i 0).toNat:Int)=ith (YD (n:Int)) i)∧((kindAt n).2.2≠[]→YW (((kindAt n).2.2.getD 0 0).toNat:Int)=YaZ (n:Int)):=by
 decide +kernel
def YiW(w:World)(b:Nat):Prop:=∀n,n<27→w.cell? ⟨b,n*3,none⟩=some (.string (bs (kindAt n).1))∧w.cell? ⟨b,n*3+1,none⟩=some (.string (bs (kindAt n).2.1))∧w.cell? ⟨b,n*3+2,none⟩=some (.string (bs (kindAt n).2.2))
theorem YiX:∀n,n<27→Ybd[n*3]?=some (.string (bs (kindAt n).1))∧Ybd[n*3+1]?=some (.string (bs (kindAt n).2.1))∧Ybd[n*3+2]?=some (.string (bs (kindAt n).2.2)):=by
 intro n q
 iterate 27 (refine(Nat.lt_succ_iff_lt_or_eq.1 q).elim ?_ (by rintro rfl;exact⟨rfl,rfl,rfl⟩);clear q;intro q)
 exact absurd q (Nat.not_lt_zero _)
theorem Ybp{w:World}:Calls Tryz.prog 76 #[] w fun e w'=>e=.returned (.slice (some ⟨w.heap.size,0,none⟩) 27 27)∧YiW w' w.heap.size∧w.heap.size<w'.heap.size∧Below w.heap.size w w':=by
 refine YhG.mono fun e w' ⟨he,hw⟩=>?_
 subst hw;refine⟨he,fun n hn=>?_,ZS,BL⟩;obtain⟨h0,h1,h2⟩:=YiX n hn;have hg:=heap_alloc_new w (.cells Ybd 113);exact⟨(cell_of_row _ _ _ _ _ _ hg).trans h0,(cell_of_row _ _ _ _ _ _ hg).trans h1,(cell_of_row _ _ _ _ _ _ hg).trans h2⟩
theorem box2{w w':World}{x y:Value}{t:TypeId}(hb:Below (w.heap.size+1) (w.alloc (.cells #[x,y] t)) w') :
 w.heap.size<w'.heap.size∧w'.cell? ⟨w.heap.size,0,none⟩=some x∧w'.cell? ⟨w.heap.size,1,none⟩=some y:=by
 have hg:=heap_alloc_new w (.cells #[x,y] t);have hs:=hb.size;simp at hs;exact⟨ZO,(hb.cell (p:=⟨w.heap.size,0,none⟩) (Nat.lt_succ_self _)).trans (cell_of_row _ _ 0 _ _ _ hg),(hb.cell (p:=⟨w.heap.size,1,none⟩) (Nat.lt_succ_self _)).trans (cell_of_row _ _ 1 _ _ _ hg)⟩
theorem Yb2{w w':World}{cs:Array Value}{t:TypeId}(hb:Below (w.heap.size+1) (w.alloc (.cells cs t)) w') :
 w.heap.size<w'.heap.size∧∀j,w'.cell? ⟨w.heap.size,j,none⟩=cs[j]?:=by
 have hg:=heap_alloc_new w (.cells cs t);have hs:=hb.size;simp at hs;exact⟨ZO,fun j=>(hb.cell (p:=⟨w.heap.size,j,none⟩) (Nat.lt_succ_self _)).trans (cell_of_row _ _ j _ _ _ hg)⟩
theorem Ydw{s t:ByteArray}:(s.toList==t.toList)=decide (s=t):=by
 rw[Bool.eq_iff_iff];simp only[beq_iff_eq,decide_eq_true_eq,Lib.toList_data];constructor
 · intro h
   obtain⟨a⟩:=s;obtain⟨b⟩:=t;simp only[ByteArray.mk.injEq];exact Array.toList_inj.1 h
 · rintro rfl;rfl
theorem Yb3{B:Nat}{a w:World}(h:Below B a w)(n:Nat):Below B a (w.drewN n):=h.trans ⟨rfl,rfl,rfl,Nr _,fun _ _=>rfl⟩
theorem set3{w:World}{b:Nat}{u v t:Value}(h:∀j,j<3→(w.cell? ⟨b,j,none⟩).isSome=true) :
 (((w.setCell ⟨b,0,none⟩ u).setCell ⟨b,1,none⟩ v).setCell ⟨b,2,none⟩ t).cell? ⟨b,0,none⟩=some u∧
 (((w.setCell ⟨b,0,none⟩ u).setCell ⟨b,1,none⟩ v).setCell ⟨b,2,none⟩ t).cell? ⟨b,1,none⟩=some v∧
 (((w.setCell ⟨b,0,none⟩ u).setCell ⟨b,1,none⟩ v).setCell ⟨b,2,none⟩ t).cell? ⟨b,2,none⟩=some t:=by
 have n01:(⟨b,0,none⟩:Addr)≠⟨b,1,none⟩:=by simp
 have n02:(⟨b,0,none⟩:Addr)≠⟨b,2,none⟩:=by simp
 have n12:(⟨b,1,none⟩:Addr)≠⟨b,2,none⟩:=by simp
 refine⟨?_,?_,?_⟩
 · rw[World.cell?_setCell_other (h:=n02.symm),World.cell?_setCell_other (h:=n01.symm),World.cell?_setCell_same' _ _ _ (h 0 ZD)]
 · rw[World.cell?_setCell_other (h:=n12.symm),World.cell?_setCell_same' _ _ _ (by rw[World.cell?_setCell_other (h:=n01)];exact h 1 ZD)]
 · rw[World.cell?_setCell_same' _ _ _ (by rw[World.cell?_setCell_other (h:=n12),World.cell?_setCell_other (h:=n02)];exact h 2 ZD)]
theorem YiY(l:List UInt8)(i:Nat)(h:i<l.length):∃h':i<(bs l).size,(((bs l)[i]'h').toNat:Int)=((l.getD i 0).toNat:Int):=by
 have hs:(bs l).size=l.length:=by simp[bs,ByteArray.size]
 refine⟨by rw[hs];exact h,?_⟩;have:(bs l)[i]'(by rw[hs];exact h)=l.getD i 0:=by
  simp only[List.getD,List.getElem?_eq_getElem h,Option.getD_some];rfl
 rw[this]
end Go.Proofs.YthhjlbflpjhahaaGreatDoor
