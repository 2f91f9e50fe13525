/- The two tables of operations: the program's and the reference's. -/
import Derived.Test.YtjlclkcmfokobaaGreatDoorLeafQZ
import Derived.Great.CaseRows
import Derived.Laws.CopyOwn
import Derived.Test.YtjlclkcmfokobaaGreatDoorNameZ
import Derived.Shelf.Strings.FuncGrows
namespace Go.Proofs.YtjlclkcmfokobaaGreatDoor
open Go.RowKit
def Ye6:List (List UInt8×List UInt8×List UInt8):=
 [([99,111,110,115,116],[],[105]),([99,111,112,121],[105],[105]),([97,100,100],[105,105],[105]),([115,117,98],[105,105],[105]),([109,117,108],[105,105],[105]),
  ([100,105,118],[105,105],[105]),([114,101,109],[105,105],[105]),([101,113],[105,105],[98]),([108,116],[105,105],[98]),([108,101],[105,105],[98]),
  ([110,111,116],[98],[98]),([97,110,100],[98,98],[98]),([108,101,110],[97],[105]),([108,111,97,100],[97,105],[105]),([115,116,111,114,101],[97,105,105],[]),
  ([110,101,119],[105],[97]),([110,105,108],[],[97]),([111,117,116],[105],[]),([99,104,107,105,100,120],[97,105],[]),([99,104,107,110,105,108],[97],[]),
  ([99,104,107,100,105,118],[105],[]),([99,104,107,97,100,100],[105,105],[]),([99,104,107,115,117,98],[105,105],[]),([99,104,107,109,117,108],[105,105],[]),
  ([99,104,107,108,101,110],[105],[]),([112,105],[105,105],[105]),([112,105,108,101,110],[105,97],[105])]
def kindAt(n:Nat):List UInt8×List UInt8×List UInt8:=Ye6.getD n ([],[],[])
def YbY(l:List UInt8):Value:=.string ⟨l.toArray⟩
def YbA:Array Value:=(Ye6.flatMap fun k=>[YbY k.1,YbY k.2.1,YbY k.2.2]).toArray
def YpW(n:Nat):Value:=.agg #[YbY (kindAt n).1,YbY (kindAt n).2.1,YbY (kindAt n).2.2]
set_option maxRecDepth 100000 in
set_option maxHeartbeats 1000000 in
theorem Yj5{w:World}:Calls Tryz.prog 205 #[] w fun e w'=>e=.returned (.agg YbA)∧Below w.heap.size w w':=by
 go_enter Tryz.func205,Tryz.ntmps205
 go_wp2_with(first
  |(refine wpList_buildTo rfl 260 _ rfl (some 28) rfl YbA ZK ?_)
  |(refine wpList_store_rowTo rfl 260 _ _ rfl rfl w.heap.size YbA rfl rfl 260 _ (heap_alloc_new _ _) ZK ZK ZK ?_))
 refine bodyPost_ret (v:=.agg YbA) (results_cell_row rfl _ _ w.heap.size 260 YbA (0,0) _ rfl (setRow_heap _ _ _ _ _ _ (heap_alloc_new _ _)) Tryz.underlying260 rfl ZK) rfl ⟨rfl,below_setRow ((Br _ _).alloc (Nr _) _) (Nr _) _⟩
def Yj6:List Value:=Ye6.map fun k=>.agg #[YbY k.1,YbY k.2.1,YbY k.2.2]
set_option maxRecDepth 100000 in
set_option maxHeartbeats 1000000 in
theorem Yj7{w:World}:Calls Tryz.prog 87 #[] w fun e w'=>e=.returned (.slice (some ⟨w.heap.size,0,none⟩) 27 27)∧w'=w.alloc (.cells YbA 138):=by
 go_enter Tryz.func87,Tryz.ntmps87;go_wp2_with(refine Go.Great.wpList_buildRows rfl 139 138 _ 3 Yj6 rfl (fun i=>i+1) w.heap.size rfl (some 28) rfl Tryz.underlying139 ZK ZK ZD ZD ZD ZK ZD (fun i h=>?hev) ?_)
 case hev=>
  have q:i<27:=h
  iterate 27 (refine(Nat.lt_succ_iff_lt_or_eq.1 q).elim ?_ (by rintro rfl;rfl);clear q;intro q)
  exact absurd q (Nat.not_lt_zero _)
 go_ret;exact⟨rfl,rfl⟩
end Go.Proofs.YtjlclkcmfokobaaGreatDoor
namespace Go.Proofs.YtjlclkcmfokobaaGreatDoor
open Go.RowKit
def Yaq(op:Int):Bool:=inB op 27
def bs(l:List UInt8):ByteArray:=⟨l.toArray⟩
theorem Yj8:∀n,n<27→∀w,(Instr.index 260 (.agg YbA) (.int .i64 (n:Nat))).run Tryz.prog w=.ok (.agg #[.string (bs (kindAt n).1),.string (bs (kindAt n).2.1),.string (bs (kindAt n).2.2)]) w:=by
 intro n q
 iterate 27 (refine(Nat.lt_succ_iff_lt_or_eq.1 q).elim ?_ (by rintro rfl;intro w;kernel_rfl);clear q;intro q)
 exact absurd q (Nat.not_lt_zero _)
theorem Ye7{w:World}(op:Int):Calls Tryz.prog 146 #[.int .i64 op] w fun e w'=>e=.returned (.bool (Yaq op))∧w=w':=by
 by_cases h0:0≤op
 all_goals
  go_enter Tryz.func146,Tryz.ntmps146;go_wp2;go_ret;exact⟨Yam (by simp[Yaq,inB]<;>omega),rfl⟩
def Yaa(op:Int):List UInt8×List UInt8×List UInt8:=if Yaq op then kindAt op.toNat else([],[],[])
def YcS(op:Int):ByteArray:=bs (Yaa op).1
theorem Ye8{op:Int}(h:Yaq op=true):Yaa op=kindAt op.toNat:=by simp[Yaa,h]
theorem Ye9{op:Int}(h:Yaq op=false):Yaa op=([],[],[]):=by simp[Yaa,h]
set_option maxRecDepth 100000 in
theorem Yfa{w:World}(op:Int):Calls Tryz.prog 196 #[.int .i64 op] w fun e w'=>e=.returned (.agg #[.string (bs (Yaa op).1),.string (bs (Yaa op).2.1),.string (bs (Yaa op).2.2)])∧Below w.heap.size w w':=by
 cases hi:Yaq op
 · have hs:=fun w=>Ye7 (w:=w) op
   rw[hi]at hs;rw[Ye9 hi];go_enter Tryz.func196,Tryz.ntmps196;go_wp2_with(go_at_call 146;refine(hs _).mono ?_;rintro e w1 ⟨rfl,rfl⟩);exact bodyPost_ret (v:=.agg #[.string (bs []),.string (bs []),.string (bs [])]) (by simp[results,Tryz.results196,go_sem,bs]) rfl ⟨rfl,BL⟩
 · have hs:=fun w=>Ye7 (w:=w) op
   rw[hi]at hs;rw[Ye8 hi];obtain⟨n,rfl⟩:=Int.eq_ofNat_of_zero_le (YQ hi).1;rw[Int.toNat_natCast];have hn:n<27:=by have:=(YQ hi).2;omega
   have hix:=Yj8 n hn;clear hi;generalize bs (kindAt n).1=a at *;generalize bs (kindAt n).2.1=b at *;generalize bs (kindAt n).2.2=c at *;go_enter Tryz.func196,Tryz.ntmps196;go_wp2_with(first|(go_at_call 146;refine(hs _).mono ?_;rintro e w1 ⟨rfl,rfl⟩)|(go_at_call 205;refine Yj5.mono ?_;(rintro e w2 ⟨rfl,hb2⟩;obtain⟨hc2,hf2⟩:=Ya hb2;have hz2:=hb2.size;try simp at hz2;try have hy2:=Nl hz2;try have hx2:=Ns hy2;try have hw2:=Ns hx2)));exact bodyPost_ret (v:=.agg #[.string a,.string b,.string c]) (by simp[results,Tryz.results196,go_sem,hc2]) rfl ⟨rfl,BL⟩
def Y3(c:Int):Int:=if c=98 then 1 else if c=97 then 2 else 0
theorem YgN{w:World}(c:Int):Calls Tryz.prog 197 #[.int .i32 c] w fun e w'=>e=.returned (.int .i64 (Y3 c))∧w=w':=by
 by_cases h0:c=98
 · subst h0
   go_enter Tryz.func197,Tryz.ntmps197;go_wp2;go_ret;exact⟨rfl,rfl⟩
 · by_cases h1:c=97
   · subst h1
     go_enter Tryz.func197,Tryz.ntmps197;go_wp2;go_ret;exact⟨rfl,rfl⟩
   · rw[show Y3 c=0 by simp[Y3,h0,h1]]
     go_enter Tryz.func197,Tryz.ntmps197;go_wp2;go_ret;exact⟨rfl,rfl⟩
theorem Yj9(a b c:ByteArray)(w:World):(Instr.field 243 (.agg #[.string a,.string b,.string c]) 0).run Tryz.prog w=.ok (.string a) w:=by kernel_rfl
theorem Yka(a b c:ByteArray)(w:World):(Instr.field 243 (.agg #[.string a,.string b,.string c]) 1).run Tryz.prog w=.ok (.string b) w:=by kernel_rfl
theorem Ykb(a b c:ByteArray)(w:World):(Instr.field 243 (.agg #[.string a,.string b,.string c]) 2).run Tryz.prog w=.ok (.string c) w:=by kernel_rfl
theorem Ykc{w:World}(op:Int):Calls Tryz.prog 194 #[.int .i64 op] w fun e w'=>e=.returned (.string (YcS op))∧Below w.heap.size w w':=by
 have hk:=Yfa (w:=w) op;unfold YcS;generalize bs (Yaa op).1=a at *;generalize bs (Yaa op).2.1=b at *;generalize bs (Yaa op).2.2=c at *;have hf0:=Yj9 a b c;go_enter Tryz.func194,Tryz.ntmps194;go_wp2_with(go_at_call 196;refine hk.mono ?_;rintro e w1 ⟨rfl,hb⟩);go_ret;exact⟨rfl,hb⟩
theorem Ykd{w:World}(op:Int):Calls Tryz.prog 168 #[.int .i64 op] w fun e w'=>e=.returned (.bool (decide (op=1)))∧w=w':=by
 go_enter Tryz.func168,Tryz.ntmps168;go_wp2;go_ret;exact⟨Yam ZS,rfl⟩
theorem Yke{w:World}(op:Int):Calls Tryz.prog 195 #[.int .i64 op] w fun e w'=>e=.returned (.bool (decide (op=0∨op=25)))∧w=w':=by
 by_cases h0:op=0
 all_goals
  go_enter Tryz.func195,Tryz.ntmps195;go_wp2;go_ret;exact⟨Yam (by simp[h0]),rfl⟩
def Ydq(t:Int):ByteArray:=bs (if t=0 then [105,110,116] else if t=1 then [98,111,111,108] else if t=2 then [97,114,114] else [])
theorem YgO{w:World}(t:Int):Calls Tryz.prog 187 #[.int .i64 t] w fun e w'=>e=.returned (.string (Ydq t))∧w=w':=by
 by_cases h0:t=0
 · subst h0
   go_enter Tryz.func187,Tryz.ntmps187;go_wp2;go_ret;exact⟨rfl,rfl⟩
 · by_cases h1:t=1
   · subst h1
     go_enter Tryz.func187,Tryz.ntmps187;go_wp2;go_ret;exact⟨rfl,rfl⟩
   · by_cases h2:t=2
     · subst h2
       go_enter Tryz.func187,Tryz.ntmps187;go_wp2;go_ret;exact⟨rfl,rfl⟩
     · have hw:Ydq t=ByteArray.empty:=by simp only[Ydq,if_neg h0,if_neg h1,if_neg h2];rfl
       rw[hw];go_enter Tryz.func187,Tryz.ntmps187;go_wp2;go_ret;exact⟨rfl,rfl⟩
def YM(op:Int):List Int:=(YP (bs (Yaa op).2.1)).map Y3
def Yfb(op:Int):List Int:=(YP (bs (Yaa op).2.2)).map Y3
theorem YgP(op:Int):(bs (Yaa op).2.1).size≤3∧(bs (Yaa op).2.2).size≤1:=by
 have key:∀n,n<27→(kindAt n).2.1.length≤3∧(kindAt n).2.2.length≤1:=by decide
 cases hi:Yaq op
 · rw[Ye9 hi];decide
 · rw[Ye8 hi]
   have:=YQ hi;exact key op.toNat ZO
theorem Tryz.info48:(Tryz.prog.info? 48).map (fun i=>(i.zero,i.size,i.bytes))=some (some (.int .i64 0),1,8):=by kernel_rfl
set_option maxRecDepth 100000 in
set_option maxHeartbeats 400000 in
theorem Yce{w:World}(op:Int):Calls Tryz.prog 169 #[.int .i64 op] w (RetInts w (YM op)):=by
 have hk:=Yfa (w:=w) op;unfold YM;have hs:=(YgP op).1;generalize bs (Yaa op).1=sa at *;generalize bs (Yaa op).2.1=s at *;generalize bs (Yaa op).2.2=sc at *;have hf1:=Yka sa s sc;go_enter Tryz.func169,Tryz.ntmps169;go_wp2_with(go_at_call 196;refine hk.mono ?_;rintro e w1 ⟨rfl,hb⟩);clear hf1
 go_loopw[3] (fun v wr=>∃(pos f:Nat) (pre:List Int),wr.ownsRow (w1.heap.size+1) 48 1 v pre.length (pre.map (Value.int .i64))∧wr.heap[w1.heap.size]?=some (.stringIter s pos)∧Below w1.heap.size w1 wr∧Hid ((YP s).map Y3=pre++(YaF s f pos).map Y3)∧s.size≤pos+f∧pre.length≤pos∧pre.length≤s.size) (fun _ wr=>s.size-wr.iterPos w1.heap.size)
 case atStart=>exact⟨0,s.size,[],⟨rfl,.inl ⟨rfl,rfl⟩⟩,World.iter_heap _ _ _,(Br _ _).alloc (Nr _) _,by simp[Hid,YP],ZO,ZS,ZS⟩
 case round=>
  obtain⟨pos,f,pre,hown,hit,hb1,hr,hf,hp,hp2⟩:=hrel;have hsz3:w1.heap.size<wr.heap.size:=(Array.getElem?_eq_some_iff.1 hit).1
  by_cases hlt:pos<s.size
  · have hnx:∀ty,(Instr.next (.pointer (some ⟨w1.heap.size,0,none⟩)) true ty).run Tryz.prog wr=_:=fun ty=>Lib.run_next_any_at wr w1.heap.size s pos ty hit hlt
    obtain⟨f',rfl,hf',he⟩:=YcQ hf hlt;have HE:=Lh he;have hw1:=Lib.decode_width_pos s pos hlt;clear he;have hit1:=Lh (Lib.iterAt_heap wr w1.heap.size s pos (pos+(Utf8.decode s pos).2) hit);have hb2:=Lib.below_iterAt hb1 (Nr w1.heap.size) s (pos+(Utf8.decode s pos).2);have hown1:=ownsRow_iterAt hown (k:=w1.heap.size) ZO s (pos+(Utf8.decode s pos).2);have hsz:=Lib.iterAt_size wr w1.heap.size s (pos+(Utf8.decode s pos).2)
    go_wp2_with(first
     |(go_at_call 197;refine(YgN _).mono ?_;rintro e w2 ⟨rfl,rfl⟩)
     |(at_builtin;go_loud (refine Ydp _ rfl _ _ 215 rfl (w1.heap.size+1) 48 8 Tryz.underlying215 Tryz.info48 rfl _ _ _ rfl hown1 _ hsz _ rfl rfl ZO ZD ZO ?_);intro v' w3 hown2 hg))
    go_roundw
    case rel=>exact⟨_,f',pre++[Y3 ((Utf8.decode s pos).1:Int)],by simpa using hown2,(YgK hown1 hg ZO (by rw[hsz];omega)).trans hit1.out,Ybl hown1 hg hb2 ZO (by rw[hsz];omega),by unfold Hid;rw[hr.out,HE.out];simp,hf',ZX,ZX⟩
    case measure=>rw[iterPos_of ((YgK hown1 hg (k:=w1.heap.size) ZO (by rw[hsz];omega)).trans hit1.out),iterPos_of hit];omega
  · have hnx:∀ty,(Instr.next (.pointer (some ⟨w1.heap.size,0,none⟩)) true ty).run Tryz.prog wr=_:=fun ty=>Lib.run_next_end_at wr w1.heap.size s pos ty hit hlt
    have he:=YcP (f:=f) hlt;have HX:=Lh (show(YP s).map Y3=pre by rw[hr.out,he];simp);clear he;go_wp2;go_ret;rw[HX.out];exact RetInts.of_own hown ZO (hb.trans (hb1.mono hb.size))
def YbB(op:Int):Int:=(Yfb op).headD 0
def Yaf(op:Int):Bool:=!(Yfb op).isEmpty
set_option maxRecDepth 100000 in
set_option maxHeartbeats 400000 in
theorem YgQ{w:World}(op:Int):Calls Tryz.prog 170 #[.int .i64 op] w fun e w'=>e=.returned (.tuple #[.int .i64 (YbB op),.bool (Yaf op)])∧Below w.heap.size w w':=by
 have hk:=Yfa (w:=w) op;unfold YbB Yaf Yfb;have hs:=(YgP op).2;generalize bs (Yaa op).1=sa at *;generalize bs (Yaa op).2.1=sb at *;generalize bs (Yaa op).2.2=s at *;have hf2:=Ykb sa sb s;have hr:YP s=YaF s s.size 0:=rfl
 by_cases hlt:0<s.size
 · obtain⟨f',_,hf',he⟩:=YcQ (f:=s.size) (pos:=0) ZO hlt
   have HE:=Lh (hr.trans he);clear he hr;have hnx:∀(w1:World) ty,(Instr.next (.pointer (some ⟨w1.heap.size,0,none⟩)) true ty).run Tryz.prog (w1.iter s 0)=_:=fun w1 ty=>run_next_any w1 s 0 ty hlt
   go_enter Tryz.func170,Tryz.ntmps170;go_wp2_with(go_at_call 196;refine hk.mono ?_;rintro e w1 ⟨rfl,hb⟩);refine wp_loop_once ?_;go_wp2_with(go_at_call 197;refine(YgN _).mono ?_;rintro e w2 ⟨rfl,rfl⟩)
   go_ret2
   rw[HE.out];exact⟨ZS,hb.trans ((Br _ _).alloc (Nr _) _ |>.mono hb.size)⟩
 · have he:=YcP (s:=s) (f:=s.size) (pos:=0) hlt
   have HE:=Lh (hr.trans he);clear he hr;have hnx:∀(w1:World) ty,(Instr.next (.pointer (some ⟨w1.heap.size,0,none⟩)) true ty).run Tryz.prog (w1.iter s 0)=_:=fun w1 ty=>run_next_end w1 s 0 ty hlt
   go_enter Tryz.func170,Tryz.ntmps170;go_wp2_with(go_at_call 196;refine hk.mono ?_;rintro e w1 ⟨rfl,hb⟩);refine wp_loop_once ?_;go_wp2
   go_ret2
   rw[HE.out];exact⟨ZS,hb.trans ((Br _ _).alloc (Nr _) _ |>.mono hb.size)⟩
end Go.Proofs.YtjlclkcmfokobaaGreatDoor
namespace Go.Proofs.YtjlclkcmfokobaaGreatDoor
open Go.RowKit
set_option maxRecDepth 100000
def Yd9(w:World)(k:FuncId)(c:Value)(xs:List Int)(p:Int→Bool):Prop:=
 ∀x,x∈xs→∀w1,Below w.heap.size w w1→Calls Tryz.prog k #[.int .i64 x,c] w1 fun e w'=>e=.returned (.bool (p x))∧Below w1.heap.size w1 w'
def Yg{α:Type}(p:α→Bool):List α→Nat→Int
 |[],_=>-1
 |x::r,i=>if p x then i else Yg p r (i+1)
theorem Ycq{α:Type}(p:α→Bool):∀(l:List α) (i:Nat),(0≤Yg p l i)↔l.any p=true
 |[],i=>by simp[Yg]
 |x::r,i=>by
  unfold Yg
  by_cases h:p x=true
  · simp[h]
  · rw[if_neg h,Ycq p r (i+1)];simp[h]
theorem Ycf{xs:List Int}{i:Nat}(h:i<xs.length):ith xs i∈xs:=List.mem_of_getElem? (Ybz h)
theorem YaI{xs:List Int}{i:Nat}(h:i<xs.length):xs.drop i=ith xs i::xs.drop (i+1):=by
 rw[List.drop_eq_getElem_cons h];have:=Ybz h;rw[List.getElem?_eq_getElem h]at this;injection this with this
 rw[this]
set_option maxHeartbeats 400000 in
theorem Ykf{W w:World}{A:Option Addr}{c0:Nat}{xs:List Int}(hr:Rd W.heap.size A xs 1 (Yk W))(hl:Len xs.length)(hW:Below W.heap.size W w)(k:FuncId)(c:Value)(p:Int→Bool)(eg:∀args w,(callFunc k args).run Tryz.prog w=.ok (.enter k args) w)(hp:Yd9 w k c xs p) :
 Calls Tryz.prog 184 #[.slice A xs.length c0,.func (.func k) #[] #[c]] w fun e w'=>e=.returned (.int .i64 (Yg p xs 0))∧Below w.heap.size w w':=by
 unfold Len at hl;go_enter Tryz.func184,Tryz.ntmps184;go_wp2
 go_loopw[5,8] (fun _ i wr=>∃n:Nat,i=.int .i64 n∧n≤xs.length∧Below w.heap.size w wr∧Hid (Yg p xs 0=Yg p (xs.drop n) n)) (fun _ i _=>xs.length-(intOf i).toNat)
 case atStart=>exact⟨0,rfl,Nz _,Br _ _,by simp[Hid]⟩
 case round=>
  obtain⟨n,rfl,hn,hb,hf⟩:=hrel
  by_cases hlt:n<xs.length
  · obtain⟨b,off,rfl,hbs,hc⟩:=hr.int (hW.trans (hb.mono hW.size)) hlt
    have hcl:=hp _ (Ycf hlt) wr hb;have hd:=Lh (YaI hlt);cases hx:p (ith xs n)
    · rw[hx]at hcl
      have hf2:=Lh (show Yg p xs 0=Yg p (xs.drop (n+1)) (n+1) by rw[hf.out,hd.out,Yg,if_neg (by rw[hx];decide)]);clear hx;go_wp2_with(go_at_fn k;refine hcl.mono ?_;(rintro e w1 ⟨rfl,hb1⟩;obtain⟨hc1,hf1⟩:=Ya hb1;have hz1:=hb1.size;try simp at hz1;try have hy1:=Nl hz1;try have hx1:=Ns hy1;try have hw1:=Ns hx1));go_roundw
      case rel=>exact⟨n+1,ZN,ZO,BL,hf2⟩
      case measure=>simp[intOf];omega
    · rw[hx]at hcl
      have hf2:=Lh (show Yg p xs 0=n by rw[hf.out,hd.out,Yg,if_pos hx]);clear hx;go_wp2_with(go_at_fn k;refine hcl.mono ?_;(rintro e w1 ⟨rfl,hb1⟩;obtain⟨hc1,hf1⟩:=Ya hb1;have hz1:=hb1.size;try simp at hz1;try have hy1:=Nl hz1;try have hx1:=Ns hy1;try have hw1:=Ns hx1));go_ret;exact⟨Yt hf2.out.symm,BL⟩
  · have hf2:=Lh (show Yg p xs 0=-1 by rw[hf.out,List.drop_eq_nil_of_le ZO];rfl)
    go_wp2;go_ret;exact⟨Yt hf2.out.symm,hb⟩
theorem YgR{W w:World}{A:Option Addr}{c0:Nat}{xs:List Int}(hr:Rd W.heap.size A xs 1 (Yk W))(hl:Len xs.length)(hW:Below W.heap.size W w)(k:FuncId)(c:Value)(p:Int→Bool)(eg:∀args w,(callFunc k args).run Tryz.prog w=.ok (.enter k args) w)(hp:Yd9 w k c xs p) :
 Calls Tryz.prog 152 #[.slice A xs.length c0,.func (.func k) #[] #[c]] w fun e w'=>e=.returned (.bool (xs.any p))∧Below w.heap.size w w':=by
 have hi:=Ykf (c0:=c0) hr hl hW k c p eg hp;go_enter Tryz.func152,Tryz.ntmps152;go_wp2_with(go_at_call 184;refine hi.mono ?_;rintro e w1 ⟨rfl,hb⟩);go_ret;exact⟨Yam (by simp only[decide_eq_true_eq];exact Ycq p xs 0),hb⟩
theorem Ykg:∀args w,(callFunc 204 args).run Tryz.prog w=.ok (.enter 204 args) w:=fun _ _=>by kernel_rfl
def FnBox(w:World)(c:Value)(fv:Value):Prop:=∃b x y z,c=.pointer (some ⟨b,0,none⟩)∧fv=.agg #[x,y,z]∧b<w.heap.size∧w.cell? ⟨b,0,none⟩=some x∧w.cell? ⟨b,1,none⟩=some y∧w.cell? ⟨b,2,none⟩=some z
theorem FnBox.later{w w':World}{c fv:Value}(h:FnBox w c fv)(hb:Below w.heap.size w w'):FnBox w' c fv:=by
 obtain⟨b,x,y,z,hc,hf,hl,h0,h1,h2⟩:=h;exact⟨b,x,y,z,hc,hf,by have:=hb.size;omega,(hb.cell (p:=⟨b,0,none⟩) hl).trans h0,(hb.cell (p:=⟨b,1,none⟩) hl).trans h1,(hb.cell (p:=⟨b,2,none⟩) hl).trans h2⟩
theorem Ykh{W w:World}{fv c:Value}{F:PFunc}(hF:FnV W W.heap.size fv F)(hc:FnBox w c fv)(v:Int) :
 Calls Tryz.prog 204 #[.int .i64 v,c] w fun e w'=>e=.returned (.bool (!inB v F.vars.length))∧Below w.heap.size w w':=by
 obtain⟨b,x,y,z,rfl,rfl,hl,h0,h1,h2⟩:=hc;go_enter Tryz.func204,Tryz.ntmps204;go_wp2_with(go_at_call 190;refine(Yd6 hF v).mono ?_;rintro e w1 ⟨rfl,hb⟩);go_ret;exact⟨rfl,hb⟩
theorem FnBox.new(w:World)(x y z:Value)(t:TypeId):FnBox (w.alloc (.cells #[x,y,z] t)) (.pointer (some ⟨w.heap.size,0,none⟩)) (.agg #[x,y,z]):=by
 have hg:=heap_alloc_new w (.cells #[x,y,z] t);exact⟨w.heap.size,x,y,z,rfl,rfl,ZS,cell_of_row _ _ 0 _ _ _ hg,cell_of_row _ _ 1 _ _ _ hg,cell_of_row _ _ 2 _ _ _ hg⟩
theorem Yki{W w:World}{fv c:Value}{F:PFunc}(hF:FnV W W.heap.size fv F)(hc:FnBox w c fv)(xs:List Int):Yd9 w 204 c xs (fun v=>!inB v F.vars.length):=
 fun x _ _ hb=>Ykh hF (hc.later hb) x
def Yw(F:PFunc)(l:List Int):Bool:=l.all fun v=>inB v F.vars.length
theorem YgS{W w:World}{fv:Value}{F:PFunc}(hF:FnV W W.heap.size fv F)(hW:Below W.heap.size W w){A:Option Addr}{c0:Nat}{xs:List Int}(hr:Rd W.heap.size A xs 1 (Yk W))(hl:Len xs.length) :
 Calls Tryz.prog 191 #[fv,.slice A xs.length c0] w fun e w'=>e=.returned (.bool (Yw F xs))∧Below w.heap.size w w':=by
 obtain⟨A0,c0',A1,c1,A2,c2,rfl,-⟩:=hF.open_;go_enter Tryz.func191,Tryz.ntmps191;go_wp2_with(go_at_call 152;refine(YgR hr hl BL _ _ _ Ykg (Yki hF (FnBox.new _ _ _ _ _) xs)).mono ?_;rintro e w1 ⟨rfl,hb⟩);go_ret;exact⟨Yb (by simp[Yw,List.all_eq_not_any_not]),BL⟩
end Go.Proofs.YtjlclkcmfokobaaGreatDoor
