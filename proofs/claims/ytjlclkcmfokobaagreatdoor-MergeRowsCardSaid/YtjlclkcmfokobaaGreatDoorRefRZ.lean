/- The plain law of the reference's Shaped: it asks what the program's asks. -/
import Derived.Test.YtjlclkcmfokobaaGreatDoorTypedZ
import Derived.Test.YtjlclkcmfokobaaGreatDoorSchZ
namespace Go.Proofs.YtjlclkcmfokobaaGreatDoor
open Go.RowKit
set_option maxRecDepth 100000
def vtB(F:PFunc)(n:Nat):Bool:=(F.vars.drop n).all (fun v=>YaY v.ty)&&YZ ((vnames F).take n) ((vnames F).drop n)
def btB(F:PFunc)(n s:Nat):Bool:=YZ ((bnames F).take n) ((bnames F).drop n)&&(F.blocks.drop n).all (YaJ F)&&decide (s+YaK (F.blocks.drop n)≤1024)
def Yc0(F:PFunc):Bool:=decide (F.vars.length≤512)&&decide (F.params.length≤8)&&decide (F.params.length≤F.vars.length)&&decide (1≤F.blocks.length)&&decide (F.blocks.length≤64)
theorem Yhg(F:PFunc):Yj F=(Yc0 F&&Yax F.params 0&&vtB F 0&&btB F 0 0):=by
 unfold Yj Yag Yc0 vtB btB;rw[Bool.eq_iff_iff];simp only[Bool.and_eq_true,decide_eq_true_eq,List.drop_zero,List.take_zero,Nat.zero_add];constructor
 · rintro⟨⟨⟨⟨⟨⟨⟨⟨⟨⟨h1,h2⟩,h3⟩,h4⟩,h5⟩,h6⟩,h7⟩,h8⟩,h9⟩,h10⟩,h11⟩
   exact⟨⟨⟨⟨⟨⟨⟨h3,h4⟩,h5⟩,h6⟩,h7⟩,h2⟩,h1,h8⟩,⟨h9,h10⟩,h11⟩
 · rintro⟨⟨⟨⟨⟨⟨⟨h3,h4⟩,h5⟩,h6⟩,h7⟩,h2⟩,h1,h8⟩,⟨h9,h10⟩,h11⟩
   exact⟨⟨⟨⟨⟨⟨⟨⟨⟨⟨h1,h2⟩,h3⟩,h4⟩,h5⟩,h6⟩,h7⟩,h8⟩,h9⟩,h10⟩,h11⟩
theorem Yle{F:PFunc}{n:Nat}(h:n<F.vars.length):(vnames F).drop n=(F.var n).name::(vnames F).drop (n+1):=by
 unfold vnames;rw[← List.map_drop,Yeb h,List.map_cons,List.map_drop]
theorem Ylf{F:PFunc}{n:Nat}(h:n<F.blocks.length):(bnames F).drop n=(F.blk n).name::(bnames F).drop (n+1):=by
 unfold bnames;rw[← List.map_drop,Yct h,List.map_cons,List.map_drop]
theorem Ylg{F:PFunc}{n:Nat}(h:n<F.vars.length):vtB F n=(YaH (F.var n).name&&YaY (F.var n).ty&&!(YR ((vnames F).take n) (F.var n).name)&&vtB F (n+1)):=by
 unfold vtB;rw[Yeb h,Yle h,Yfn h,List.all_cons,YZ,Bool.eq_iff_iff];simp only[Bool.and_eq_true];constructor
 · rintro⟨⟨h1,h2⟩,⟨h3,h4⟩,h5⟩;exact⟨⟨⟨h3,h1⟩,h4⟩,h2,h5⟩
 · rintro⟨⟨⟨h3,h1⟩,h4⟩,h2,h5⟩;exact⟨⟨h1,h2⟩,⟨h3,h4⟩,h5⟩
theorem Ylh{F:PFunc}{n:Nat}(h:F.vars.length≤n):vtB F n=true:=by
 unfold vtB;rw[List.drop_eq_nil_of_le h,List.drop_eq_nil_of_le (by simpa[vnames]using h)];rfl
theorem Yli{F:PFunc}{n s:Nat}(h:n<F.blocks.length):btB F n s=(YaH (F.blk n).name&&!(YR ((bnames F).take n) (F.blk n).name)&&YaJ F (F.blk n)&&btB F (n+1) (s+((F.blk n).phis.length+(F.blk n).insts.length))):=by
 unfold btB;rw[Yct h,Ylf h,Yfo h,List.all_cons,YZ,YaK,Nat.add_assoc s,Bool.eq_iff_iff];simp only[Bool.and_eq_true];constructor
 · rintro⟨⟨⟨⟨h1,h2⟩,h3⟩,h4,h5⟩,h6⟩;exact⟨⟨⟨h1,h2⟩,h4⟩,⟨h3,h5⟩,h6⟩
 · rintro⟨⟨⟨h1,h2⟩,h4⟩,⟨h3,h5⟩,h6⟩;exact⟨⟨⟨⟨h1,h2⟩,h3⟩,h4,h5⟩,h6⟩
theorem Ylj{F:PFunc}{n s:Nat}(h:F.blocks.length≤n)(hs:s≤1024):btB F n s=true:=by
 unfold btB;rw[List.drop_eq_nil_of_le h,List.drop_eq_nil_of_le (by simpa[bnames]using h)];simp[YZ,YaK,hs]
theorem Ylk{F:PFunc}{n s:Nat}(h:¬s≤1024):btB F n s=false:=by
 unfold btB;rw[show decide (s+YaK (F.blocks.drop n)≤1024)=false from ZX,Bool.and_false]
theorem Yll{F:PFunc}{k:Nat}(h:k<F.vars.length)(s:ByteArray):YR ((vnames F).take (k+1)) s=(YR ((vnames F).take k) s||decide ((F.var k).name=s)):=by
 unfold YR;rw[Yfn h,List.any_append];simp
theorem Ylm{F:PFunc}{k:Nat}(h:k<F.blocks.length)(s:ByteArray):YR ((bnames F).take (k+1)) s=(YR ((bnames F).take k) s||decide ((F.blk k).name=s)):=by
 unfold YR;rw[Yfo h,List.any_append];simp
theorem Yhh{l:List ByteArray}{k n:Nat}{s:ByteArray}(hk:k≤n)(h:YR (l.take k) s=true):YR (l.take n) s=true:=by
 unfold YR at *;rw[List.any_eq_true]at *;obtain⟨x,hx,h⟩:=h;refine⟨x,?_,h⟩;have:l.take k=(l.take n).take k:=by rw[List.take_take,Nat.min_eq_left hk]
 rw[this]at hx;exact List.mem_of_mem_take hx
theorem Yhi{t:Int}(h:t<0∨2<t):YaY t=false:=by
 unfold YaY;simp only[Bool.or_eq_false_iff,decide_eq_false_iff_not];omega
theorem Yln{t:Int}(h:0≤t)(h2:t≤2):YaY t=true:=by
 unfold YaY;simp only[Bool.or_eq_true,decide_eq_true_eq];omega
def Ybp(F:PFunc)(x:PPhi)(j:Nat):Bool:=(x.args.drop j).all (fun v=>inB v F.vars.length)&&(x.froms.drop j).all (fun v=>inB v F.blocks.length)
theorem Ylo{F:PFunc}{x:PPhi}{j:Nat}(h:j<x.args.length)(h2:j<x.froms.length):Ybp F x j=(inB (ith x.args j) F.vars.length&&inB (ith x.froms j) F.blocks.length&&Ybp F x (j+1)):=by
 unfold Ybp;rw[YaI h,YaI h2,List.all_cons,List.all_cons,Bool.eq_iff_iff];simp only[Bool.and_eq_true];constructor
 · rintro⟨⟨h1,h2⟩,h3,h4⟩;exact⟨⟨h1,h3⟩,h2,h4⟩
 · rintro⟨⟨h1,h3⟩,h2,h4⟩;exact⟨⟨h1,h2⟩,h3,h4⟩
theorem Ylp{F:PFunc}{x:PPhi}{j:Nat}(h:x.args.length≤j)(h2:x.froms.length≤j):Ybp F x j=true:=by
 unfold Ybp;rw[List.drop_eq_nil_of_le h,List.drop_eq_nil_of_le h2];rfl
theorem Ylq(F:PFunc)(x:PPhi):YI F x=(inB x.dst F.vars.length&&decide (x.args.length=x.froms.length)&&decide (1≤x.args.length)&&Ybp F x 0):=by
 unfold YI Ybp Yw YcW;rw[Bool.eq_iff_iff];simp only[Bool.and_eq_true,decide_eq_true_eq,List.drop_zero];constructor
 · rintro⟨⟨⟨⟨h1,h2⟩,h3⟩,h4⟩,h5⟩;exact⟨⟨⟨h3,h2⟩,ZO⟩,h4,h5⟩
 · rintro⟨⟨⟨h3,h2⟩,h1⟩,h4,h5⟩;exact⟨⟨⟨⟨ZO,h2⟩,h3⟩,h4⟩,h5⟩
theorem Ylr(F:PFunc)(b:PBlock):YaJ F b=(b.phis.all (YI F)&&b.insts.all (Ym F)&&YJ F b.term):=by
 unfold YaJ;rw[List.not_any_eq_all_not,List.not_any_eq_all_not];simp
theorem Yhj:∀n,n<27→((kindAt n).2.1.length=(YM (n:Int)).length∧((kindAt n).2.2=[]↔Yaf (n:Int)=false)∧((kindAt n).1=[99,111,110,115,116]↔(n:Int)=0)∧((kindAt n).1=[112,105]↔(n:Int)=25)∧((kindAt n).1=[99,111,112,121]↔(n:Int)=1))∧
 (∀i,i<(kindAt n).2.1.length→Y3 (((kindAt n).2.1.getD i 0).toNat:Int)=ith (YM (n:Int)) i)∧((kindAt n).2.2≠[]→Y3 (((kindAt n).2.2.getD 0 0).toNat:Int)=YbB (n:Int)):=by
 decide +kernel
def Yls(w:World)(b:Nat):Prop:=∀n,n<27→w.cell? ⟨b,n*3,none⟩=some (.string (bs (kindAt n).1))∧w.cell? ⟨b,n*3+1,none⟩=some (.string (bs (kindAt n).2.1))∧w.cell? ⟨b,n*3+2,none⟩=some (.string (bs (kindAt n).2.2))
theorem Ylt:∀n,n<27→YbA[n*3]?=some (.string (bs (kindAt n).1))∧YbA[n*3+1]?=some (.string (bs (kindAt n).2.1))∧YbA[n*3+2]?=some (.string (bs (kindAt n).2.2)):=by
 intro n q
 iterate 27 (refine(Nat.lt_succ_iff_lt_or_eq.1 q).elim ?_ (by rintro rfl;exact⟨rfl,rfl,rfl⟩);clear q;intro q)
 exact absurd q (Nat.not_lt_zero _)
theorem Ybq{w:World}:Calls Tryz.prog 87 #[] w fun e w'=>e=.returned (.slice (some ⟨w.heap.size,0,none⟩) 27 27)∧Yls w' w.heap.size∧w.heap.size<w'.heap.size∧Below w.heap.size w w':=by
 refine Yj7.mono fun e w' ⟨he,hw⟩=>?_
 subst hw;refine⟨he,fun n hn=>?_,ZS,BL⟩;obtain⟨h0,h1,h2⟩:=Ylt n hn;have hg:=heap_alloc_new w (.cells YbA 138);exact⟨(cell_of_row _ _ _ _ _ _ hg).trans h0,(cell_of_row _ _ _ _ _ _ hg).trans h1,(cell_of_row _ _ _ _ _ _ hg).trans h2⟩
theorem box2{w w':World}{x y:Value}{t:TypeId}(hb:Below (w.heap.size+1) (w.alloc (.cells #[x,y] t)) w') :
 w.heap.size<w'.heap.size∧w'.cell? ⟨w.heap.size,0,none⟩=some x∧w'.cell? ⟨w.heap.size,1,none⟩=some y:=by
 have hg:=heap_alloc_new w (.cells #[x,y] t);have hs:=hb.size;simp at hs;exact⟨ZO,(hb.cell (p:=⟨w.heap.size,0,none⟩) (Nat.lt_succ_self _)).trans (cell_of_row _ _ 0 _ _ _ hg),(hb.cell (p:=⟨w.heap.size,1,none⟩) (Nat.lt_succ_self _)).trans (cell_of_row _ _ 1 _ _ _ hg)⟩
theorem Ycx{w w':World}{cs:Array Value}{t:TypeId}(hb:Below (w.heap.size+1) (w.alloc (.cells cs t)) w') :
 w.heap.size<w'.heap.size∧∀j,w'.cell? ⟨w.heap.size,j,none⟩=cs[j]?:=by
 have hg:=heap_alloc_new w (.cells cs t);have hs:=hb.size;simp at hs;exact⟨ZO,fun j=>(hb.cell (p:=⟨w.heap.size,j,none⟩) (Nat.lt_succ_self _)).trans (cell_of_row _ _ j _ _ _ hg)⟩
theorem Yeg{s t:ByteArray}:(s.toList==t.toList)=decide (s=t):=by
 rw[Bool.eq_iff_iff];simp only[beq_iff_eq,decide_eq_true_eq,Lib.toList_data];constructor
 · intro h
   obtain⟨a⟩:=s;obtain⟨b⟩:=t;simp only[ByteArray.mk.injEq];exact Array.toList_inj.1 h
 · rintro rfl;rfl
theorem bdrewN{B:Nat}{a w:World}(h:Below B a w)(n:Nat):Below B a (w.drewN n):=h.trans ⟨rfl,rfl,rfl,Nr _,fun _ _=>rfl⟩
theorem set3{w:World}{b:Nat}{u v t:Value}(h:∀j,j<3→(w.cell? ⟨b,j,none⟩).isSome=true) :
 (((w.setCell ⟨b,0,none⟩ u).setCell ⟨b,1,none⟩ v).setCell ⟨b,2,none⟩ t).cell? ⟨b,0,none⟩=some u∧
 (((w.setCell ⟨b,0,none⟩ u).setCell ⟨b,1,none⟩ v).setCell ⟨b,2,none⟩ t).cell? ⟨b,1,none⟩=some v∧
 (((w.setCell ⟨b,0,none⟩ u).setCell ⟨b,1,none⟩ v).setCell ⟨b,2,none⟩ t).cell? ⟨b,2,none⟩=some t:=by
 have n01:(⟨b,0,none⟩:Addr)≠⟨b,1,none⟩:=by simp
 have n02:(⟨b,0,none⟩:Addr)≠⟨b,2,none⟩:=by simp
 have n12:(⟨b,1,none⟩:Addr)≠⟨b,2,none⟩:=by simp
 refine⟨?_,?_,?_⟩
 · rw[World.cell?_setCell_other (h:=n02.symm),World.cell?_setCell_other (h:=n01.symm),World.cell?_setCell_same' _ _ _ (h 0 ZD)]
 · rw[World.cell?_setCell_other (h:=n12.symm),World.cell?_setCell_same' _ _ _ (by rw[World.cell?_setCell_other (h:=n01)];exact h 1 ZD)]
 · rw[World.cell?_setCell_same' _ _ _ (by rw[World.cell?_setCell_other (h:=n12),World.cell?_setCell_other (h:=n02)];exact h 2 ZD)]
theorem Ylu(l:List UInt8)(i:Nat)(h:i<l.length):∃h':i<(bs l).size,(((bs l)[i]'h').toNat:Int)=((l.getD i 0).toNat:Int):=by
 have hs:(bs l).size=l.length:=by simp[bs,ByteArray.size]
 refine⟨by rw[hs];exact h,?_⟩;have:(bs l)[i]'(by rw[hs];exact h)=l.getD i 0:=by
  simp only[List.getD,List.getElem?_eq_getElem h,Option.getD_some];rfl
 rw[this]
end Go.Proofs.YtjlclkcmfokobaaGreatDoor
