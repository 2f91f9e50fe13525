/- The plain law of the reference's Shaped: it asks what the program's asks. No program's code in sight. The reference's table in plain words; boxes in memory. -/
import Derived.Test.YtlhhfcleioikoaaGreatDoorTyped
import Derived.Test.YtlhhfcleioikoaaGreatDoorSch
namespace Go.Proofs.YtlhhfcleioikoaaGreatDoor
open Go.RowKit
set_option maxRecDepth 100000
def vtB(F:PFunc)(n:Nat):Bool:=(F.vars.drop n).all (fun v=>okTy v.ty)&&unlikeB ((vnames F).take n) ((vnames F).drop n)
def btB(F:PFunc)(n s:Nat):Bool:=unlikeB ((bnames F).take n) ((bnames F).drop n)&&(F.blocks.drop n).all (blockB F)&&decide (s+sumB (F.blocks.drop n)≤1024)
def lensB(F:PFunc):Bool:=decide (F.vars.length≤512)&&decide (F.params.length≤8)&&decide (F.params.length≤F.vars.length)&&decide (1≤F.blocks.length)&&decide (F.blocks.length≤64)
theorem shaped_parts(F:PFunc):shapedP F=(lensB F&&countsB F.params 0&&vtB F 0&&btB F 0 0):=by
 unfold shapedP namesB lensB vtB btB;rw[Bool.eq_iff_iff];simp only[Bool.and_eq_true,decide_eq_true_eq,List.drop_zero,List.take_zero,Nat.zero_add];constructor
 · rintro⟨⟨⟨⟨⟨⟨⟨⟨⟨⟨h1,h2⟩,h3⟩,h4⟩,h5⟩,h6⟩,h7⟩,h8⟩,h9⟩,h10⟩,h11⟩
   exact⟨⟨⟨⟨⟨⟨⟨h3,h4⟩,h5⟩,h6⟩,h7⟩,h2⟩,h1,h8⟩,⟨h9,h10⟩,h11⟩
 · rintro⟨⟨⟨⟨⟨⟨⟨h3,h4⟩,h5⟩,h6⟩,h7⟩,h2⟩,h1,h8⟩,⟨h9,h10⟩,h11⟩
   exact⟨⟨⟨⟨⟨⟨⟨⟨⟨⟨h1,h2⟩,h3⟩,h4⟩,h5⟩,h6⟩,h7⟩,h8⟩,h9⟩,h10⟩,h11⟩
theorem vnames_drop{F:PFunc}{n:Nat}(h:n<F.vars.length):(vnames F).drop n=(F.var n).name::(vnames F).drop (n+1):=by
 unfold vnames;rw[← List.map_drop,drop_var h,List.map_cons,List.map_drop]
theorem bnames_drop{F:PFunc}{n:Nat}(h:n<F.blocks.length):(bnames F).drop n=(F.blk n).name::(bnames F).drop (n+1):=by
 unfold bnames;rw[← List.map_drop,drop_blk h,List.map_cons,List.map_drop]
theorem vt_step{F:PFunc}{n:Nat}(h:n<F.vars.length):vtB F n=(nameB (F.var n).name&&okTy (F.var n).ty&&!(memB ((vnames F).take n) (F.var n).name)&&vtB F (n+1)):=by
 unfold vtB;rw[drop_var h,vnames_drop h,take_var h,List.all_cons,unlikeB,Bool.eq_iff_iff];simp only[Bool.and_eq_true];constructor
 · rintro⟨⟨h1,h2⟩,⟨h3,h4⟩,h5⟩;exact⟨⟨⟨h3,h1⟩,h4⟩,h2,h5⟩
 · rintro⟨⟨⟨h3,h1⟩,h4⟩,h2,h5⟩;exact⟨⟨h1,h2⟩,⟨h3,h4⟩,h5⟩
theorem vt_end{F:PFunc}{n:Nat}(h:F.vars.length≤n):vtB F n=true:=by
 unfold vtB;rw[List.drop_eq_nil_of_le h,List.drop_eq_nil_of_le (by simpa[vnames]using h)];rfl
theorem bt_step{F:PFunc}{n s:Nat}(h:n<F.blocks.length):btB F n s=(nameB (F.blk n).name&&!(memB ((bnames F).take n) (F.blk n).name)&&blockB F (F.blk n)&&btB F (n+1) (s+((F.blk n).phis.length+(F.blk n).insts.length))):=by
 unfold btB;rw[drop_blk h,bnames_drop h,take_blk h,List.all_cons,unlikeB,sumB,Nat.add_assoc s,Bool.eq_iff_iff];simp only[Bool.and_eq_true];constructor
 · rintro⟨⟨⟨⟨h1,h2⟩,h3⟩,h4,h5⟩,h6⟩;exact⟨⟨⟨h1,h2⟩,h4⟩,⟨h3,h5⟩,h6⟩
 · rintro⟨⟨⟨h1,h2⟩,h4⟩,⟨h3,h5⟩,h6⟩;exact⟨⟨⟨⟨h1,h2⟩,h3⟩,h4,h5⟩,h6⟩
theorem bt_end{F:PFunc}{n s:Nat}(h:F.blocks.length≤n)(hs:s≤1024):btB F n s=true:=by
 unfold btB;rw[List.drop_eq_nil_of_le h,List.drop_eq_nil_of_le (by simpa[bnames]using h)];simp[unlikeB,sumB,hs]
theorem bt_over{F:PFunc}{n s:Nat}(h:¬s≤1024):btB F n s=false:=by
 unfold btB;rw[show decide (s+sumB (F.blocks.drop n)≤1024)=false from ZX,Bool.and_false]
theorem memV_step{F:PFunc}{k:Nat}(h:k<F.vars.length)(s:ByteArray):memB ((vnames F).take (k+1)) s=(memB ((vnames F).take k) s||decide ((F.var k).name=s)):=by
 unfold memB;rw[take_var h,List.any_append];simp
theorem memN_step{F:PFunc}{k:Nat}(h:k<F.blocks.length)(s:ByteArray):memB ((bnames F).take (k+1)) s=(memB ((bnames F).take k) s||decide ((F.blk k).name=s)):=by
 unfold memB;rw[take_blk h,List.any_append];simp
theorem memB_mono{l:List ByteArray}{k n:Nat}{s:ByteArray}(hk:k≤n)(h:memB (l.take k) s=true):memB (l.take n) s=true:=by
 unfold memB at *;rw[List.any_eq_true]at *;obtain⟨x,hx,h⟩:=h;refine⟨x,?_,h⟩;have:l.take k=(l.take n).take k:=by rw[List.take_take,Nat.min_eq_left hk]
 rw[this]at hx;exact List.mem_of_mem_take hx
theorem okTy_no{t:Int}(h:t<0∨2<t):okTy t=false:=by
 unfold okTy;simp only[Bool.or_eq_false_iff,decide_eq_false_iff_not];omega
theorem okTy_yes{t:Int}(h:0≤t)(h2:t≤2):okTy t=true:=by
 unfold okTy;simp only[Bool.or_eq_true,decide_eq_true_eq];omega
def pairsB(F:PFunc)(x:PPhi)(j:Nat):Bool:=(x.args.drop j).all (fun v=>inB v F.vars.length)&&(x.froms.drop j).all (fun v=>inB v F.blocks.length)
theorem pairs_step{F:PFunc}{x:PPhi}{j:Nat}(h:j<x.args.length)(h2:j<x.froms.length):pairsB F x j=(inB (ith x.args j) F.vars.length&&inB (ith x.froms j) F.blocks.length&&pairsB F x (j+1)):=by
 unfold pairsB;rw[drop_ith h,drop_ith h2,List.all_cons,List.all_cons,Bool.eq_iff_iff];simp only[Bool.and_eq_true];constructor
 · rintro⟨⟨h1,h2⟩,h3,h4⟩;exact⟨⟨h1,h3⟩,h2,h4⟩
 · rintro⟨⟨h1,h3⟩,h2,h4⟩;exact⟨⟨h1,h2⟩,h3,h4⟩
theorem pairs_end{F:PFunc}{x:PPhi}{j:Nat}(h:x.args.length≤j)(h2:x.froms.length≤j):pairsB F x j=true:=by
 unfold pairsB;rw[List.drop_eq_nil_of_le h,List.drop_eq_nil_of_le h2];rfl
theorem phi_parts(F:PFunc)(x:PPhi):phiB F x=(inB x.dst F.vars.length&&decide (x.args.length=x.froms.length)&&decide (1≤x.args.length)&&pairsB F x 0):=by
 unfold phiB pairsB varsB atsB;rw[Bool.eq_iff_iff];simp only[Bool.and_eq_true,decide_eq_true_eq,List.drop_zero];constructor
 · rintro⟨⟨⟨⟨h1,h2⟩,h3⟩,h4⟩,h5⟩;exact⟨⟨⟨h3,h2⟩,ZO⟩,h4,h5⟩
 · rintro⟨⟨⟨h3,h2⟩,h1⟩,h4,h5⟩;exact⟨⟨⟨⟨ZO,h2⟩,h3⟩,h4⟩,h5⟩
theorem block_parts(F:PFunc)(b:PBlock):blockB F b=(b.phis.all (phiB F)&&b.insts.all (instB F)&&termB F b.term):=by
 unfold blockB;rw[List.not_any_eq_all_not,List.not_any_eq_all_not];simp
theorem kind_facts:∀n,n<27→((kindAt n).2.1.length=(takesOf (n:Int)).length∧((kindAt n).2.2=[]↔makesB (n:Int)=false)∧((kindAt n).1=[99,111,110,115,116]↔(n:Int)=0)∧((kindAt n).1=[112,105]↔(n:Int)=25)∧((kindAt n).1=[99,111,112,121]↔(n:Int)=1))∧
 (∀i,i<(kindAt n).2.1.length→typOf (((kindAt n).2.1.getD i 0).toNat:Int)=ith (takesOf (n:Int)) i)∧((kindAt n).2.2≠[]→typOf (((kindAt n).2.2.getD 0 0).toNat:Int)=makesT (n:Int)):=by
 decide +kernel
end Go.Proofs.YtlhhfcleioikoaaGreatDoor
namespace Go.Proofs.YtlhhfcleioikoaaGreatDoor
open Go.RowKit
set_option maxRecDepth 100000
def RowsAt(w:World)(b:Nat):Prop:=∀n,n<27→w.cell? ⟨b,n*3,none⟩=some (.string (bs (kindAt n).1))∧w.cell? ⟨b,n*3+1,none⟩=some (.string (bs (kindAt n).2.1))∧w.cell? ⟨b,n*3+2,none⟩=some (.string (bs (kindAt n).2.2))
theorem kindsArr_at:∀n,n<27→kindsArr[n*3]?=some (.string (bs (kindAt n).1))∧kindsArr[n*3+1]?=some (.string (bs (kindAt n).2.1))∧kindsArr[n*3+2]?=some (.string (bs (kindAt n).2.2)):=by
 intro n q
 iterate 27 (refine(Nat.lt_succ_iff_lt_or_eq.1 q).elim ?_ (by rintro rfl;exact⟨rfl,rfl,rfl⟩);clear q;intro q)
 exact absurd q (Nat.not_lt_zero _)
theorem rows2_calls{w:World}:Calls Tryz.prog 79 #[] w fun e w'=>e=.returned (.slice (some ⟨w.heap.size,0,none⟩) 27 27)∧RowsAt w' w.heap.size∧w.heap.size<w'.heap.size∧Below w.heap.size w w':=by
 refine rows_calls.mono fun e w' ⟨he,hw⟩=>?_
 subst hw;refine⟨he,fun n hn=>?_,ZS,BL⟩;obtain⟨h0,h1,h2⟩:=kindsArr_at n hn;have hg:=heap_alloc_new w (.cells kindsArr 118);exact⟨(cell_of_row _ _ _ _ _ _ hg).trans h0,(cell_of_row _ _ _ _ _ _ hg).trans h1,(cell_of_row _ _ _ _ _ _ hg).trans h2⟩
theorem box2{w w':World}{x y:Value}{t:TypeId}(hb:Below (w.heap.size+1) (w.alloc (.cells #[x,y] t)) w') :
 w.heap.size<w'.heap.size∧w'.cell? ⟨w.heap.size,0,none⟩=some x∧w'.cell? ⟨w.heap.size,1,none⟩=some y:=by
 have hg:=heap_alloc_new w (.cells #[x,y] t);have hs:=hb.size;simp at hs;exact⟨ZO,(hb.cell (p:=⟨w.heap.size,0,none⟩) (Nat.lt_succ_self _)).trans (cell_of_row _ _ 0 _ _ _ hg),(hb.cell (p:=⟨w.heap.size,1,none⟩) (Nat.lt_succ_self _)).trans (cell_of_row _ _ 1 _ _ _ hg)⟩
theorem boxN{w w':World}{cs:Array Value}{t:TypeId}(hb:Below (w.heap.size+1) (w.alloc (.cells cs t)) w') :
 w.heap.size<w'.heap.size∧∀j,w'.cell? ⟨w.heap.size,j,none⟩=cs[j]?:=by
 have hg:=heap_alloc_new w (.cells cs t);have hs:=hb.size;simp at hs;exact⟨ZO,fun j=>(hb.cell (p:=⟨w.heap.size,j,none⟩) (Nat.lt_succ_self _)).trans (cell_of_row _ _ j _ _ _ hg)⟩
theorem str_beq{s t:ByteArray}:(s.toList==t.toList)=decide (s=t):=by
 rw[Bool.eq_iff_iff];simp only[beq_iff_eq,decide_eq_true_eq,Lib.toList_data];constructor
 · intro h
   obtain⟨a⟩:=s;obtain⟨b⟩:=t;simp only[ByteArray.mk.injEq];exact Array.toList_inj.1 h
 · rintro rfl;rfl
theorem bdrewN{B:Nat}{a w:World}(h:Below B a w)(n:Nat):Below B a (w.drewN n):=h.trans ⟨rfl,rfl,rfl,Nat.le_refl _,fun _ _=>rfl⟩
theorem set3{w:World}{b:Nat}{u v t:Value}(h:∀j,j<3→(w.cell? ⟨b,j,none⟩).isSome=true) :
 (((w.setCell ⟨b,0,none⟩ u).setCell ⟨b,1,none⟩ v).setCell ⟨b,2,none⟩ t).cell? ⟨b,0,none⟩=some u∧
 (((w.setCell ⟨b,0,none⟩ u).setCell ⟨b,1,none⟩ v).setCell ⟨b,2,none⟩ t).cell? ⟨b,1,none⟩=some v∧
 (((w.setCell ⟨b,0,none⟩ u).setCell ⟨b,1,none⟩ v).setCell ⟨b,2,none⟩ t).cell? ⟨b,2,none⟩=some t:=by
 have n01:(⟨b,0,none⟩:Addr)≠⟨b,1,none⟩:=by simp
 have n02:(⟨b,0,none⟩:Addr)≠⟨b,2,none⟩:=by simp
 have n12:(⟨b,1,none⟩:Addr)≠⟨b,2,none⟩:=by simp
 refine⟨?_,?_,?_⟩
 · rw[World.cell?_setCell_other (h:=n02.symm),World.cell?_setCell_other (h:=n01.symm),World.cell?_setCell_same' _ _ _ (h 0 ZD)]
 · rw[World.cell?_setCell_other (h:=n12.symm),World.cell?_setCell_same' _ _ _ (by rw[World.cell?_setCell_other (h:=n01)];exact h 1 ZD)]
 · rw[World.cell?_setCell_same' _ _ _ (by rw[World.cell?_setCell_other (h:=n12),World.cell?_setCell_other (h:=n02)];exact h 2 ZD)]
theorem bs_get(l:List UInt8)(i:Nat)(h:i<l.length):∃h':i<(bs l).size,(((bs l)[i]'h').toNat:Int)=((l.getD i 0).toNat:Int):=by
 have hs:(bs l).size=l.length:=by simp[bs,ByteArray.size]
 refine⟨by rw[hs];exact h,?_⟩;have:(bs l)[i]'(by rw[hs];exact h)=l.getD i 0:=by
  simp only[List.getD,List.getElem?_eq_getElem h,Option.getD_some];rfl
 rw[this]
end Go.Proofs.YtlhhfcleioikoaaGreatDoor
