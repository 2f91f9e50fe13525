/- The two tables of operations: the program's and the reference's. The walks of package ops, as far as programs are looked at: what an operation takes and makes. slices.IndexFunc and slices.ContainsFunc over []int, with whatever predicate. -/
import Derived.Test.YtlhhfcleioikoaaGreatDoorData
import Derived.Great.CaseRows
import Derived.Laws.CopyOwn
import Derived.Test.YtlhhfcleioikoaaGreatDoorName
import Derived.Test.YtlhhfcleioikoaaGreatDoorLeaf
import Derived.Shelf.Strings.FuncGrows
namespace Go.Proofs.YtlhhfcleioikoaaGreatDoor
open Go.RowKit
def kindTab:List (List UInt8×List UInt8×List UInt8):=
 [([99,111,110,115,116],[],[105]),([99,111,112,121],[105],[105]),([97,100,100],[105,105],[105]),([115,117,98],[105,105],[105]),([109,117,108],[105,105],[105]),
  ([100,105,118],[105,105],[105]),([114,101,109],[105,105],[105]),([101,113],[105,105],[98]),([108,116],[105,105],[98]),([108,101],[105,105],[98]),
  ([110,111,116],[98],[98]),([97,110,100],[98,98],[98]),([108,101,110],[97],[105]),([108,111,97,100],[97,105],[105]),([115,116,111,114,101],[97,105,105],[]),
  ([110,101,119],[105],[97]),([110,105,108],[],[97]),([111,117,116],[105],[]),([99,104,107,105,100,120],[97,105],[]),([99,104,107,110,105,108],[97],[]),
  ([99,104,107,100,105,118],[105],[]),([99,104,107,97,100,100],[105,105],[]),([99,104,107,115,117,98],[105,105],[]),([99,104,107,109,117,108],[105,105],[]),
  ([99,104,107,108,101,110],[105],[]),([112,105],[105,105],[105]),([112,105,108,101,110],[105,97],[105])]
def kindAt(n:Nat):List UInt8×List UInt8×List UInt8:=kindTab.getD n ([],[],[])
def bytesV(l:List UInt8):Value:=.string ⟨l.toArray⟩
def kindsArr:Array Value:=(kindTab.flatMap fun k=>[bytesV k.1,bytesV k.2.1,bytesV k.2.2]).toArray
def kindV(n:Nat):Value:=.agg #[bytesV (kindAt n).1,bytesV (kindAt n).2.1,bytesV (kindAt n).2.2]
set_option maxRecDepth 100000 in
set_option maxHeartbeats 1000000 in
theorem kinds_calls{w:World}:Calls Tryz.prog 187 #[] w fun e w'=>e=.returned (.agg kindsArr)∧Below w.heap.size w w':=by
 go_enter Tryz.func187,Tryz.ntmps187
 go_wp2_with(first
  |(refine wpList_buildTo rfl 226 _ rfl (some 28) rfl kindsArr ZK ?_)
  |(refine wpList_store_rowTo rfl 226 _ _ rfl rfl w.heap.size kindsArr rfl rfl 226 _ (heap_alloc_new _ _) ZK ZK ZK ?_))
 refine bodyPost_ret (v:=.agg kindsArr) (results_cell_row rfl _ _ w.heap.size 226 kindsArr (0,0) _ rfl (setRow_heap _ _ _ _ _ _ (heap_alloc_new _ _)) Tryz.underlying226 rfl ZK) rfl ⟨rfl,below_setRow ((Below.refl _ _).alloc (Nat.le_refl _) _) (Nat.le_refl _) _⟩
def rowVs:List Value:=kindTab.map fun k=>.agg #[bytesV k.1,bytesV k.2.1,bytesV k.2.2]
set_option maxRecDepth 100000 in
set_option maxHeartbeats 1000000 in
theorem rows_calls{w:World}:Calls Tryz.prog 79 #[] w fun e w'=>e=.returned (.slice (some ⟨w.heap.size,0,none⟩) 27 27)∧w'=w.alloc (.cells kindsArr 118):=by
 go_enter Tryz.func79,Tryz.ntmps79;go_wp2_with(refine Go.Great.wpList_buildRows rfl 119 118 _ 3 rowVs rfl (fun i=>i+1) w.heap.size rfl (some 28) rfl Tryz.underlying119 ZK ZK ZD ZD ZD ZK ZD (fun i h=>?hev) ?_)
 case hev=>
  have q:i<27:=h
  iterate 27 (refine(Nat.lt_succ_iff_lt_or_eq.1 q).elim ?_ (by rintro rfl;rfl);clear q;intro q)
  exact absurd q (Nat.not_lt_zero _)
 go_ret;exact⟨rfl,rfl⟩
end Go.Proofs.YtlhhfcleioikoaaGreatDoor
namespace Go.Proofs.YtlhhfcleioikoaaGreatDoor
open Go.RowKit
def isOp(op:Int):Bool:=inB op 27
def bs(l:List UInt8):ByteArray:=⟨l.toArray⟩
theorem index_kinds:∀n,n<27→∀w,(Instr.index 226 (.agg kindsArr) (.int .i64 (n:Nat))).run Tryz.prog w=.ok (.agg #[.string (bs (kindAt n).1),.string (bs (kindAt n).2.1),.string (bs (kindAt n).2.2)]) w:=by
 intro n q
 iterate 27 (refine(Nat.lt_succ_iff_lt_or_eq.1 q).elim ?_ (by rintro rfl;intro w;kernel_rfl);clear q;intro q)
 exact absurd q (Nat.not_lt_zero _)
theorem is_calls{w:World}(op:Int):Calls Tryz.prog 111 #[.int .i64 op] w fun e w'=>e=.returned (.bool (isOp op))∧w=w':=by
 by_cases h0:0≤op
 all_goals
  go_enter Tryz.func111,Tryz.ntmps111;go_wp2;go_ret;exact⟨ret_bool' (by simp[isOp,inB]<;>omega),rfl⟩
def kindOf(op:Int):List UInt8×List UInt8×List UInt8:=if isOp op then kindAt op.toNat else([],[],[])
def wordOf(op:Int):ByteArray:=bs (kindOf op).1
theorem kindOf_yes{op:Int}(h:isOp op=true):kindOf op=kindAt op.toNat:=by simp[kindOf,h]
theorem kindOf_no{op:Int}(h:isOp op=false):kindOf op=([],[],[]):=by simp[kindOf,h]
set_option maxRecDepth 100000 in
theorem of2_calls{w:World}(op:Int):Calls Tryz.prog 174 #[.int .i64 op] w fun e w'=>e=.returned (.agg #[.string (bs (kindOf op).1),.string (bs (kindOf op).2.1),.string (bs (kindOf op).2.2)])∧Below w.heap.size w w':=by
 cases hi:isOp op
 · have hs:=fun w=>is_calls (w:=w) op
   rw[hi]at hs;rw[kindOf_no hi];go_enter Tryz.func174,Tryz.ntmps174;go_wp2_with(go_at_call 111;refine(hs _).mono ?_;rintro e w1 ⟨rfl,rfl⟩);exact bodyPost_ret (v:=.agg #[.string (bs []),.string (bs []),.string (bs [])]) (by simp[results,Tryz.results174,go_sem,bs]) rfl ⟨rfl,BL⟩
 · have hs:=fun w=>is_calls (w:=w) op
   rw[hi]at hs;rw[kindOf_yes hi];obtain⟨n,rfl⟩:=Int.eq_ofNat_of_zero_le (inB_true hi).1;rw[Int.toNat_natCast];have hn:n<27:=by have:=(inB_true hi).2;omega
   have hix:=index_kinds n hn;clear hi;generalize bs (kindAt n).1=a at *;generalize bs (kindAt n).2.1=b at *;generalize bs (kindAt n).2.2=c at *;go_enter Tryz.func174,Tryz.ntmps174;go_wp2_with(first|(go_at_call 111;refine(hs _).mono ?_;rintro e w1 ⟨rfl,rfl⟩)|(go_at_call 187;refine kinds_calls.mono ?_;(rintro e w2 ⟨rfl,hb2⟩;obtain⟨hc2,hf2⟩:=bcell hb2;have hz2:=hb2.size;try simp at hz2;try have hy2:=Nat.lt_of_succ_le hz2;try have hx2:=Nat.lt_of_succ_lt hy2;try have hw2:=Nat.lt_of_succ_lt hx2)));exact bodyPost_ret (v:=.agg #[.string a,.string b,.string c]) (by simp[results,Tryz.results174,go_sem,hc2]) rfl ⟨rfl,BL⟩
def typOf(c:Int):Int:=if c=98 then 1 else if c=97 then 2 else 0
theorem typed2_calls{w:World}(c:Int):Calls Tryz.prog 175 #[.int .i32 c] w fun e w'=>e=.returned (.int .i64 (typOf c))∧w=w':=by
 by_cases h0:c=98
 · subst h0
   go_enter Tryz.func175,Tryz.ntmps175;go_wp2;go_ret;exact⟨rfl,rfl⟩
 · by_cases h1:c=97
   · subst h1
     go_enter Tryz.func175,Tryz.ntmps175;go_wp2;go_ret;exact⟨rfl,rfl⟩
   · rw[show typOf c=0 by simp[typOf,h0,h1]]
     go_enter Tryz.func175,Tryz.ntmps175;go_wp2;go_ret;exact⟨rfl,rfl⟩
theorem kind_f0(a b c:ByteArray)(w:World):(Instr.field 205 (.agg #[.string a,.string b,.string c]) 0).run Tryz.prog w=.ok (.string a) w:=by kernel_rfl
theorem kind_f1(a b c:ByteArray)(w:World):(Instr.field 205 (.agg #[.string a,.string b,.string c]) 1).run Tryz.prog w=.ok (.string b) w:=by kernel_rfl
theorem kind_f2(a b c:ByteArray)(w:World):(Instr.field 205 (.agg #[.string a,.string b,.string c]) 2).run Tryz.prog w=.ok (.string c) w:=by kernel_rfl
theorem word_calls{w:World}(op:Int):Calls Tryz.prog 172 #[.int .i64 op] w fun e w'=>e=.returned (.string (wordOf op))∧Below w.heap.size w w':=by
 have hk:=of2_calls (w:=w) op;unfold wordOf;generalize bs (kindOf op).1=a at *;generalize bs (kindOf op).2.1=b at *;generalize bs (kindOf op).2.2=c at *;have hf0:=kind_f0 a b c;go_enter Tryz.func172,Tryz.ntmps172;go_wp2_with(go_at_call 174;refine hk.mono ?_;rintro e w1 ⟨rfl,hb⟩);go_ret;exact⟨rfl,hb⟩
theorem any_calls{w:World}(op:Int):Calls Tryz.prog 146 #[.int .i64 op] w fun e w'=>e=.returned (.bool (decide (op=1)))∧w=w':=by
 go_enter Tryz.func146,Tryz.ntmps146;go_wp2;go_ret;exact⟨ret_bool' ZS,rfl⟩
theorem numbered_calls{w:World}(op:Int):Calls Tryz.prog 173 #[.int .i64 op] w fun e w'=>e=.returned (.bool (decide (op=0∨op=25)))∧w=w':=by
 by_cases h0:op=0
 all_goals
  go_enter Tryz.func173,Tryz.ntmps173;go_wp2;go_ret;exact⟨ret_bool' (by simp[h0]),rfl⟩
def typeWord(t:Int):ByteArray:=bs (if t=0 then [105,110,116] else if t=1 then [98,111,111,108] else if t=2 then [97,114,114] else [])
theorem typeWord_calls{w:World}(t:Int):Calls Tryz.prog 165 #[.int .i64 t] w fun e w'=>e=.returned (.string (typeWord t))∧w=w':=by
 by_cases h0:t=0
 · subst h0
   go_enter Tryz.func165,Tryz.ntmps165;go_wp2;go_ret;exact⟨rfl,rfl⟩
 · by_cases h1:t=1
   · subst h1
     go_enter Tryz.func165,Tryz.ntmps165;go_wp2;go_ret;exact⟨rfl,rfl⟩
   · by_cases h2:t=2
     · subst h2
       go_enter Tryz.func165,Tryz.ntmps165;go_wp2;go_ret;exact⟨rfl,rfl⟩
     · have hw:typeWord t=ByteArray.empty:=by simp only[typeWord,if_neg h0,if_neg h1,if_neg h2];rfl
       rw[hw];go_enter Tryz.func165,Tryz.ntmps165;go_wp2;go_ret;exact⟨rfl,rfl⟩
def takesOf(op:Int):List Int:=(runes (bs (kindOf op).2.1)).map typOf
def makesOf(op:Int):List Int:=(runes (bs (kindOf op).2.2)).map typOf
theorem kindOf_small(op:Int):(bs (kindOf op).2.1).size≤3∧(bs (kindOf op).2.2).size≤1:=by
 have key:∀n,n<27→(kindAt n).2.1.length≤3∧(kindAt n).2.2.length≤1:=by decide
 cases hi:isOp op
 · rw[kindOf_no hi];decide
 · rw[kindOf_yes hi]
   have:=inB_true hi;exact key op.toNat ZO
theorem Tryz.info50:(Tryz.prog.info? 50).map (fun i=>(i.zero,i.size,i.bytes))=some (some (.int .i64 0),1,8):=by kernel_rfl
set_option maxRecDepth 100000 in
set_option maxHeartbeats 400000 in
theorem takes_calls{w:World}(op:Int):Calls Tryz.prog 147 #[.int .i64 op] w (RetInts w (takesOf op)):=by
 have hk:=of2_calls (w:=w) op;unfold takesOf;have hs:=(kindOf_small op).1;generalize bs (kindOf op).1=sa at *;generalize bs (kindOf op).2.1=s at *;generalize bs (kindOf op).2.2=sc at *;have hf1:=kind_f1 sa s sc;go_enter Tryz.func147,Tryz.ntmps147;go_wp2_with(go_at_call 174;refine hk.mono ?_;rintro e w1 ⟨rfl,hb⟩);clear hf1
 go_loopw[3] (fun v wr=>∃(pos f:Nat) (pre:List Int),wr.ownsRow (w1.heap.size+1) 50 1 v pre.length (pre.map (Value.int .i64))∧wr.heap[w1.heap.size]?=some (.stringIter s pos)∧Below w1.heap.size w1 wr∧Hid ((runes s).map typOf=pre++(runesFrom s f pos).map typOf)∧s.size≤pos+f∧pre.length≤pos∧pre.length≤s.size) (fun _ wr=>s.size-wr.iterPos w1.heap.size)
 case atStart=>exact⟨0,s.size,[],⟨rfl,.inl ⟨rfl,rfl⟩⟩,World.iter_heap _ _ _,(Below.refl _ _).alloc (Nat.le_refl _) _,by simp[Hid,runes],ZO,ZS,ZS⟩
 case round=>
  obtain⟨pos,f,pre,hown,hit,hb1,hr,hf,hp,hp2⟩:=hrel;have hsz3:w1.heap.size<wr.heap.size:=(Array.getElem?_eq_some_iff.1 hit).1
  by_cases hlt:pos<s.size
  · have hnx:∀ty,(Instr.next (.pointer (some ⟨w1.heap.size,0,none⟩)) true ty).run Tryz.prog wr=_:=fun ty=>Lib.run_next_any_at wr w1.heap.size s pos ty hit hlt
    obtain⟨f',rfl,hf',he⟩:=runesFrom_cons hf hlt;have HE:=Lib.hid he;have hw1:=Lib.decode_width_pos s pos hlt;clear he;have hit1:=Lib.hid (Lib.iterAt_heap wr w1.heap.size s pos (pos+(Utf8.decode s pos).2) hit);have hb2:=Lib.below_iterAt hb1 (Nat.le_refl w1.heap.size) s (pos+(Utf8.decode s pos).2);have hown1:=ownsRow_iterAt hown (k:=w1.heap.size) ZO s (pos+(Utf8.decode s pos).2);have hsz:=Lib.iterAt_size wr w1.heap.size s (pos+(Utf8.decode s pos).2)
    go_wp2_with(first
     |(go_at_call 175;refine(typed2_calls _).mono ?_;rintro e w2 ⟨rfl,rfl⟩)
     |(at_builtin;go_loud (refine wpList_append1 _ rfl _ _ 180 rfl (w1.heap.size+1) 50 8 Tryz.underlying180 Tryz.info50 rfl _ _ _ rfl hown1 _ hsz _ rfl rfl ZO ZD ZO ?_);intro v' w3 hown2 hg))
    go_roundw
    case rel=>exact⟨_,f',pre++[typOf ((Utf8.decode s pos).1:Int)],by simpa using hown2,(grown_kept hown1 hg ZO (by rw[hsz];omega)).trans hit1.out,grown_below hown1 hg hb2 ZO (by rw[hsz];omega),by unfold Hid;rw[hr.out,HE.out];simp,hf',ZX,ZX⟩
    case measure=>rw[iterPos_of ((grown_kept hown1 hg (k:=w1.heap.size) ZO (by rw[hsz];omega)).trans hit1.out),iterPos_of hit];omega
  · have hnx:∀ty,(Instr.next (.pointer (some ⟨w1.heap.size,0,none⟩)) true ty).run Tryz.prog wr=_:=fun ty=>Lib.run_next_end_at wr w1.heap.size s pos ty hit hlt
    have he:=runesFrom_end (f:=f) hlt;have HX:=Lib.hid (show(runes s).map typOf=pre by rw[hr.out,he];simp);clear he;go_wp2;go_ret;rw[HX.out];exact RetInts.of_own hown ZO (hb.trans (hb1.mono hb.size))
def makesT(op:Int):Int:=(makesOf op).headD 0
def makesB(op:Int):Bool:=!(makesOf op).isEmpty
set_option maxRecDepth 100000 in
set_option maxHeartbeats 400000 in
theorem makes_calls{w:World}(op:Int):Calls Tryz.prog 148 #[.int .i64 op] w fun e w'=>e=.returned (.tuple #[.int .i64 (makesT op),.bool (makesB op)])∧Below w.heap.size w w':=by
 have hk:=of2_calls (w:=w) op;unfold makesT makesB makesOf;have hs:=(kindOf_small op).2;generalize bs (kindOf op).1=sa at *;generalize bs (kindOf op).2.1=sb at *;generalize bs (kindOf op).2.2=s at *;have hf2:=kind_f2 sa sb s;have hr:runes s=runesFrom s s.size 0:=rfl
 by_cases hlt:0<s.size
 · obtain⟨f',_,hf',he⟩:=runesFrom_cons (f:=s.size) (pos:=0) ZO hlt
   have HE:=Lib.hid (hr.trans he);clear he hr;have hnx:∀(w1:World) ty,(Instr.next (.pointer (some ⟨w1.heap.size,0,none⟩)) true ty).run Tryz.prog (w1.iter s 0)=_:=fun w1 ty=>run_next_any w1 s 0 ty hlt
   go_enter Tryz.func148,Tryz.ntmps148;go_wp2_with(go_at_call 174;refine hk.mono ?_;rintro e w1 ⟨rfl,hb⟩);refine wp_loop_once ?_;go_wp2_with(go_at_call 175;refine(typed2_calls _).mono ?_;rintro e w2 ⟨rfl,rfl⟩)
   go_ret2
   rw[HE.out];exact⟨ZS,hb.trans ((Below.refl _ _).alloc (Nat.le_refl _) _ |>.mono hb.size)⟩
 · have he:=runesFrom_end (s:=s) (f:=s.size) (pos:=0) hlt
   have HE:=Lib.hid (hr.trans he);clear he hr;have hnx:∀(w1:World) ty,(Instr.next (.pointer (some ⟨w1.heap.size,0,none⟩)) true ty).run Tryz.prog (w1.iter s 0)=_:=fun w1 ty=>run_next_end w1 s 0 ty hlt
   go_enter Tryz.func148,Tryz.ntmps148;go_wp2_with(go_at_call 174;refine hk.mono ?_;rintro e w1 ⟨rfl,hb⟩);refine wp_loop_once ?_;go_wp2
   go_ret2
   rw[HE.out];exact⟨ZS,hb.trans ((Below.refl _ _).alloc (Nat.le_refl _) _ |>.mono hb.size)⟩
end Go.Proofs.YtlhhfcleioikoaaGreatDoor
namespace Go.Proofs.YtlhhfcleioikoaaGreatDoor
open Go.RowKit
set_option maxRecDepth 100000
def PredI(w:World)(k:FuncId)(c:Value)(xs:List Int)(p:Int→Bool):Prop:=
 ∀x,x∈xs→∀w1,Below w.heap.size w w1→Calls Tryz.prog k #[.int .i64 x,c] w1 fun e w'=>e=.returned (.bool (p x))∧Below w1.heap.size w1 w'
def firstIdx{α:Type}(p:α→Bool):List α→Nat→Int
 |[],_=>-1
 |x::r,i=>if p x then i else firstIdx p r (i+1)
theorem firstIdx_neg{α:Type}(p:α→Bool):∀(l:List α) (i:Nat),(0≤firstIdx p l i)↔l.any p=true
 |[],i=>by simp[firstIdx]
 |x::r,i=>by
  unfold firstIdx
  by_cases h:p x=true
  · simp[h]
  · rw[if_neg h,firstIdx_neg p r (i+1)];simp[h]
theorem mem_of_ith{xs:List Int}{i:Nat}(h:i<xs.length):ith xs i∈xs:=List.mem_of_getElem? (ith_get h)
theorem drop_ith{xs:List Int}{i:Nat}(h:i<xs.length):xs.drop i=ith xs i::xs.drop (i+1):=by
 rw[List.drop_eq_getElem_cons h];have:=ith_get h;rw[List.getElem?_eq_getElem h]at this;injection this with this
 rw[this]
set_option maxHeartbeats 400000 in
theorem indexI_calls{W w:World}{A:Option Addr}{c0:Nat}{xs:List Int}(hr:Rd W.heap.size A xs 1 (IntC W))(hl:Len xs.length)(hW:Below W.heap.size W w)(k:FuncId)(c:Value)(p:Int→Bool)(eg:∀args w,(callFunc k args).run Tryz.prog w=.ok (.enter k args) w)(hp:PredI w k c xs p) :
 Calls Tryz.prog 162 #[.slice A xs.length c0,.func (.func k) #[] #[c]] w fun e w'=>e=.returned (.int .i64 (firstIdx p xs 0))∧Below w.heap.size w w':=by
 unfold Len at hl;go_enter Tryz.func162,Tryz.ntmps162;go_wp2
 go_loopw[5,8] (fun _ i wr=>∃n:Nat,i=.int .i64 n∧n≤xs.length∧Below w.heap.size w wr∧Hid (firstIdx p xs 0=firstIdx p (xs.drop n) n)) (fun _ i _=>xs.length-(intOf i).toNat)
 case atStart=>exact⟨0,rfl,Nat.zero_le _,Below.refl _ _,by simp[Hid]⟩
 case round=>
  obtain⟨n,rfl,hn,hb,hf⟩:=hrel
  by_cases hlt:n<xs.length
  · obtain⟨b,off,rfl,hbs,hc⟩:=hr.int (hW.trans (hb.mono hW.size)) hlt
    have hcl:=hp _ (mem_of_ith hlt) wr hb;have hd:=Lib.hid (drop_ith hlt);cases hx:p (ith xs n)
    · rw[hx]at hcl
      have hf2:=Lib.hid (show firstIdx p xs 0=firstIdx p (xs.drop (n+1)) (n+1) by rw[hf.out,hd.out,firstIdx,if_neg (by rw[hx];decide)]);clear hx;go_wp2_with(go_at_fn k;refine hcl.mono ?_;(rintro e w1 ⟨rfl,hb1⟩;obtain⟨hc1,hf1⟩:=bcell hb1;have hz1:=hb1.size;try simp at hz1;try have hy1:=Nat.lt_of_succ_le hz1;try have hx1:=Nat.lt_of_succ_lt hy1;try have hw1:=Nat.lt_of_succ_lt hx1));go_roundw
      case rel=>exact⟨n+1,ZN,ZO,BL,hf2⟩
      case measure=>simp[intOf];omega
    · rw[hx]at hcl
      have hf2:=Lib.hid (show firstIdx p xs 0=n by rw[hf.out,hd.out,firstIdx,if_pos hx]);clear hx;go_wp2_with(go_at_fn k;refine hcl.mono ?_;(rintro e w1 ⟨rfl,hb1⟩;obtain⟨hc1,hf1⟩:=bcell hb1;have hz1:=hb1.size;try simp at hz1;try have hy1:=Nat.lt_of_succ_le hz1;try have hx1:=Nat.lt_of_succ_lt hy1;try have hw1:=Nat.lt_of_succ_lt hx1));go_ret;exact⟨ret_int hf2.out.symm,BL⟩
  · have hf2:=Lib.hid (show firstIdx p xs 0=-1 by rw[hf.out,List.drop_eq_nil_of_le ZO];rfl)
    go_wp2;go_ret;exact⟨ret_int hf2.out.symm,hb⟩
theorem containsI_calls{W w:World}{A:Option Addr}{c0:Nat}{xs:List Int}(hr:Rd W.heap.size A xs 1 (IntC W))(hl:Len xs.length)(hW:Below W.heap.size W w)(k:FuncId)(c:Value)(p:Int→Bool)(eg:∀args w,(callFunc k args).run Tryz.prog w=.ok (.enter k args) w)(hp:PredI w k c xs p) :
 Calls Tryz.prog 130 #[.slice A xs.length c0,.func (.func k) #[] #[c]] w fun e w'=>e=.returned (.bool (xs.any p))∧Below w.heap.size w w':=by
 have hi:=indexI_calls (c0:=c0) hr hl hW k c p eg hp;go_enter Tryz.func130,Tryz.ntmps130;go_wp2_with(go_at_call 162;refine hi.mono ?_;rintro e w1 ⟨rfl,hb⟩);go_ret;exact⟨ret_bool' (by simp only[decide_eq_true_eq];exact firstIdx_neg p xs 0),hb⟩
theorem eg_vars1:∀args w,(callFunc 186 args).run Tryz.prog w=.ok (.enter 186 args) w:=fun _ _=>by kernel_rfl
def FnBox(w:World)(c:Value)(fv:Value):Prop:=∃b x y z,c=.pointer (some ⟨b,0,none⟩)∧fv=.agg #[x,y,z]∧b<w.heap.size∧w.cell? ⟨b,0,none⟩=some x∧w.cell? ⟨b,1,none⟩=some y∧w.cell? ⟨b,2,none⟩=some z
theorem FnBox.later{w w':World}{c fv:Value}(h:FnBox w c fv)(hb:Below w.heap.size w w'):FnBox w' c fv:=by
 obtain⟨b,x,y,z,hc,hf,hl,h0,h1,h2⟩:=h;exact⟨b,x,y,z,hc,hf,by have:=hb.size;omega,(hb.cell (p:=⟨b,0,none⟩) hl).trans h0,(hb.cell (p:=⟨b,1,none⟩) hl).trans h1,(hb.cell (p:=⟨b,2,none⟩) hl).trans h2⟩
theorem vars1_calls{W w:World}{fv c:Value}{F:PFunc}(hF:FnV W W.heap.size fv F)(hc:FnBox w c fv)(v:Int) :
 Calls Tryz.prog 186 #[.int .i64 v,c] w fun e w'=>e=.returned (.bool (!inB v F.vars.length))∧Below w.heap.size w w':=by
 obtain⟨b,x,y,z,rfl,rfl,hl,h0,h1,h2⟩:=hc;go_enter Tryz.func186,Tryz.ntmps186;go_wp2_with(go_at_call 168;refine(has_calls hF v).mono ?_;rintro e w1 ⟨rfl,hb⟩);go_ret;exact⟨rfl,hb⟩
theorem FnBox.new(w:World)(x y z:Value)(t:TypeId):FnBox (w.alloc (.cells #[x,y,z] t)) (.pointer (some ⟨w.heap.size,0,none⟩)) (.agg #[x,y,z]):=by
 have hg:=heap_alloc_new w (.cells #[x,y,z] t);exact⟨w.heap.size,x,y,z,rfl,rfl,ZS,cell_of_row _ _ 0 _ _ _ hg,cell_of_row _ _ 1 _ _ _ hg,cell_of_row _ _ 2 _ _ _ hg⟩
theorem pred_vars1{W w:World}{fv c:Value}{F:PFunc}(hF:FnV W W.heap.size fv F)(hc:FnBox w c fv)(xs:List Int):PredI w 186 c xs (fun v=>!inB v F.vars.length):=
 fun x _ _ hb=>vars1_calls hF (hc.later hb) x
def varsB(F:PFunc)(l:List Int):Bool:=l.all fun v=>inB v F.vars.length
theorem vars_calls{W w:World}{fv:Value}{F:PFunc}(hF:FnV W W.heap.size fv F)(hW:Below W.heap.size W w){A:Option Addr}{c0:Nat}{xs:List Int}(hr:Rd W.heap.size A xs 1 (IntC W))(hl:Len xs.length) :
 Calls Tryz.prog 169 #[fv,.slice A xs.length c0] w fun e w'=>e=.returned (.bool (varsB F xs))∧Below w.heap.size w w':=by
 obtain⟨A0,c0',A1,c1,A2,c2,rfl,-⟩:=hF.open_;go_enter Tryz.func169,Tryz.ntmps169;go_wp2_with(go_at_call 130;refine(containsI_calls hr hl BL _ _ _ eg_vars1 (pred_vars1 hF (FnBox.new _ _ _ _ _) xs)).mono ?_;rintro e w1 ⟨rfl,hb⟩);go_ret;exact⟨ret_bool (by simp[varsB,List.all_eq_not_any_not]),BL⟩
end Go.Proofs.YtlhhfcleioikoaaGreatDoor
