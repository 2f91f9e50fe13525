/- The walks of package print, on: ends, and lists of phis and instructions. -/
import Derived.Test.YthhjlbflpjhahaaGreatDoorPrintN
import Derived.Maps.OwnOps
import Derived.Maps.OwnSet
import Derived.Maps.Views
namespace Go.Proofs.YthhjlbflpjhahaaGreatDoor
open Go.RowKit
set_option maxRecDepth 100000
theorem Yfx:Program.eqGuardType Tryz.prog (Program.depth Tryz.prog) 58=false:=by kernel_rfl
theorem YhY(d:Nat)(a b c e:Int)(w:World):(Op.equalIn (d+2) 58 (.agg #[.int .i64 a,.int .i64 b]) (.agg #[.int .i64 c,.int .i64 e])).run Tryz.prog w=.ok (a==c&&b==e) w:=by
 rw[Op.equalIn];simp only[Sem.run_bind,run_underlying Tryz.underlying58,Result.andThen];have hs:(sizeOf 3).run Tryz.prog w=.ok 1 w:=by kernel_rfl
 simp only[hs];have p0:∀x y:Int,(part 3 #[.int .i64 x,.int .i64 y] 0).run Tryz.prog w=.ok (.int .i64 x) w:=fun x y=>by kernel_rfl
 have p1:∀x y:Int,(part 3 #[.int .i64 x,.int .i64 y] 1).run Tryz.prog w=.ok (.int .i64 y) w:=fun x y=>by kernel_rfl
 have q:∀x y:Int,(Op.equalIn (d+1) 3 (.int .i64 x) (.int .i64 y)).run Tryz.prog w=.ok (x==y) w:=fun x y=>run_equalIn_int w d _ _ _ x y Tryz.underlying3
 by_cases h1:a=c
 · subst h1
   by_cases h2:b=e
   · subst h2;simp[List.range'_succ,Sem.run_bind,Result.andThen,p0,p1,q]
   · simp[List.range'_succ,Sem.run_bind,Result.andThen,p0,p1,q,h2]
 · simp[List.range'_succ,Sem.run_bind,Result.andThen,p0,q,h1]
theorem Yfy(a b c e:Int)(w:World):(binOp .eql 58 (.agg #[.int .i64 a,.int .i64 b]) (.agg #[.int .i64 c,.int .i64 e])).run Tryz.prog w=.ok (.bool (a==c&&b==e)) w:=by
 rw[run_eql_struct,YhY 9998];rfl
def YE(F:PFunc)(t:PTerm):Bool:=
 if t.kind=0 then inB t.t0 F.blocks.length&&decide (t.t1=0)&&decide (t.var=0)
 else if t.kind=1 then inB t.var F.vars.length&&inB t.t0 F.blocks.length&&inB t.t1 F.blocks.length
 else if t.kind=2 then inB t.var F.vars.length&&(decide (t.t0=0)&&decide (t.t1=0))
 else false
set_option maxHeartbeats 2000000 in
theorem YhZ{W w:World}{fv:Value}{F:PFunc}(t:PTerm)(hF:FnV W W.heap.size fv F) :
 Calls Tryz.prog 134 #[fv,.agg #[.int .i64 t.kind,.int .i64 t.var,.int .i64 t.t0,.int .i64 t.t1]] w fun e w'=>e=.returned (.bool (YE F t))∧Below w.heap.size w w':=by
 obtain⟨A0,c0,A1,c1,A2,c2,rfl,-⟩:=id hF.open_;obtain⟨kind,var,t0,t1⟩:=t;have a0:=fun w=>YdV (w:=w) hF t0
 have a1:=fun w=>YdV (w:=w) hF t1
 have v0:=fun w=>Ydm (w:=w) hF var
 by_cases k0:kind=0
 · subst k0
   have HF:=Lh (show YE F ⟨0,var,t0,t1⟩=(inB t0 F.blocks.length&&decide (t1=0)&&decide (var=0)) by simp[YE]);cases b0:inB t0 F.blocks.length
   · rw[b0]at HF a0
     clear b0;go_enter Tryz.func134,Tryz.ntmps134;go_wp2_with(go_at_call 159;refine(a0 _).mono ?_;(rintro e w1 ⟨rfl,hb1⟩;obtain⟨hc1,hf1⟩:=Ya hb1;have hz1:=hb1.size;try simp at hz1;try have hy1:=Nl hz1;try have hx1:=Ns hy1;try have hw1:=Ns hx1));go_ret;exact⟨Yb (by rw[HF.out];simp),BL⟩
   · rw[b0]at HF a0
     clear b0
     by_cases h1:t1=0
     all_goals
      go_enter Tryz.func134,Tryz.ntmps134;go_wp2_with(go_at_call 159;refine(a0 _).mono ?_;(rintro e w1 ⟨rfl,hb1⟩;obtain⟨hc1,hf1⟩:=Ya hb1;have hz1:=hb1.size;try simp at hz1;try have hy1:=Nl hz1;try have hx1:=Ns hy1;try have hw1:=Ns hx1));go_ret;exact⟨Yb (by rw[HF.out,Bool.eq_iff_iff];simp[h1]),BL⟩
 by_cases k1:kind=1
 · subst k1
   have HF:=Lh (show YE F ⟨1,var,t0,t1⟩=(inB var F.vars.length&&inB t0 F.blocks.length&&inB t1 F.blocks.length) by simp[YE]);clear k0;cases b0:inB var F.vars.length
   · rw[b0]at HF v0
     clear b0;go_enter Tryz.func134,Tryz.ntmps134;go_wp2_with(go_at_call 156;refine(v0 _).mono ?_;(rintro e w1 ⟨rfl,hb1⟩;obtain⟨hc1,hf1⟩:=Ya hb1;have hz1:=hb1.size;try simp at hz1;try have hy1:=Nl hz1;try have hx1:=Ns hy1;try have hw1:=Ns hx1));go_ret;exact⟨Yb (by rw[HF.out];simp),BL⟩
   rw[b0]at HF v0;clear b0;cases b1:inB t0 F.blocks.length
   · rw[b1]at HF a0
     clear b1;go_enter Tryz.func134,Tryz.ntmps134;go_wp2_with(first|(go_at_call 156;refine(v0 _).mono ?_;(rintro e w1 ⟨rfl,hb1⟩;obtain⟨hc1,hf1⟩:=Ya hb1;have hz1:=hb1.size;try simp at hz1;try have hy1:=Nl hz1;try have hx1:=Ns hy1;try have hw1:=Ns hx1))|(go_at_call 159;refine(a0 _).mono ?_;(rintro e w2 ⟨rfl,hb2⟩;obtain⟨hc2,hf2⟩:=Ya hb2;have hz2:=hb2.size;try simp at hz2;try have hy2:=Nl hz2;try have hx2:=Ns hy2;try have hw2:=Ns hx2)));go_ret;exact⟨Yb (by rw[HF.out];simp),BL⟩
   rw[b1]at HF a0;clear b1;go_enter Tryz.func134,Tryz.ntmps134;go_wp2_with(first|(go_at_call 156;refine(v0 _).mono ?_;(rintro e w1 ⟨rfl,hb1⟩;obtain⟨hc1,hf1⟩:=Ya hb1;have hz1:=hb1.size;try simp at hz1;try have hy1:=Nl hz1;try have hx1:=Ns hy1;try have hw1:=Ns hx1))|(go_at_call 159;with_reducible refine(a0 _).mono ?_;(rintro e w2 ⟨rfl,hb2⟩;obtain⟨hc2,hf2⟩:=Ya hb2;have hz2:=hb2.size;try simp at hz2;try have hy2:=Nl hz2;try have hx2:=Ns hy2;try have hw2:=Ns hx2)));go_wp2_with(go_at_call 159;refine(a1 _).mono ?_;(rintro e w3 ⟨rfl,hb3⟩;obtain⟨hc3,hf3⟩:=Ya hb3;have hz3:=hb3.size;try simp at hz3;try have hy3:=Nl hz3;try have hx3:=Ns hy3;try have hw3:=Ns hx3));go_ret;exact⟨Yb (by rw[HF.out];simp),BL⟩
 by_cases k2:kind=2
 · subst k2
   have HF:=Lh (show YE F ⟨2,var,t0,t1⟩=(inB var F.vars.length&&(decide (t0=0)&&decide (t1=0))) by simp[YE]);clear k0 k1;have heq:=Yfy t0 t1 0 0;have hgd:=Yfx;cases b0:inB var F.vars.length
   all_goals
    rw[b0]at HF v0;clear b0;go_enter Tryz.func134,Tryz.ntmps134;go_wp2_with(go_at_call 156;refine(v0 _).mono ?_;(rintro e w1 ⟨rfl,hb1⟩;obtain⟨hc1,hf1⟩:=Ya hb1;have hz1:=hb1.size;try simp at hz1;try have hy1:=Nl hz1;try have hx1:=Ns hy1;try have hw1:=Ns hx1));go_ret;exact⟨Yb (by rw[HF.out,Bool.eq_iff_iff];simp),BL⟩
 have HF:=Lh (show YE F ⟨kind,var,t0,t1⟩=false by simp[YE,k0,k1,k2]);go_enter Tryz.func134,Tryz.ntmps134;go_wp2;go_ret;exact⟨Yb HF.out.symm,BL⟩
def Yd4(W w:World)(k:FuncId)(c:Value)(ps:List PPhi)(p:PPhi→Bool):Prop:=
 ∀x,x∈ps→∀pv,PhiV W W.heap.size pv x→∀w1,Below w.heap.size w w1→Calls Tryz.prog k #[pv,c] w1 fun e w'=>e=.returned (.bool (p x))∧Below w1.heap.size w1 w'
theorem YaH{b:PBlock}{i:Nat}(h:i<b.phis.length):b.phi i∈b.phis:=List.mem_of_getElem? (PBlock.phi_get h)
theorem YcM{b:PBlock}{i:Nat}(h:i<b.phis.length):b.phis.drop i=b.phi i::b.phis.drop (i+1):=by
 rw[List.drop_eq_getElem_cons h];have:=PBlock.phi_get h;rw[List.getElem?_eq_getElem h]at this;injection this with this
 rw[this]
set_option maxHeartbeats 400000 in
theorem Yh0{W w:World}{A:Option Addr}{c0:Nat}{b:PBlock}(hr:Rd W.heap.size A b.phis 3 (PhiC W W.heap.size))(hl:Len b.phis.length)(hW:Below W.heap.size W w)(k:FuncId)(c:Value)(p:PPhi→Bool)(eg:∀args w,(callFunc k args).run Tryz.prog w=.ok (.enter k args) w)(hp:Yd4 W w k c b.phis p) :
 Calls Tryz.prog 155 #[.slice A b.phis.length c0,.func (.func k) #[] #[c]] w fun e w'=>e=.returned (.int .i64 (Yj p b.phis 0))∧Below w.heap.size w w':=by
 unfold Len at hl;go_enter Tryz.func155,Tryz.ntmps155;go_wp2
 go_loopw[5,8] (fun _ i wr=>∃n:Nat,i=.int .i64 n∧n≤b.phis.length∧Below w.heap.size w wr∧Hid (Yj p b.phis 0=Yj p (b.phis.drop n) n)) (fun _ i _=>b.phis.length-(intOf i).toNat)
 case atStart=>exact⟨0,rfl,Nz _,Br _ _,by simp[Hid]⟩
 case round=>
  obtain⟨n,rfl,hn,hb,hf⟩:=hrel
  by_cases hlt:n<b.phis.length
  · obtain⟨bb,off,A1,c1,A2,c2,rfl,hbs,x0,x1,x2,l1,l2,k1,k2,r1,r2⟩:=hr.phi (hW.trans (hb.mono hW.size)) hlt
    have hcl:=hp _ (YaH hlt) _ ⟨_,_,rfl,⟨A1,c1,rfl,l1,k1,r1⟩,A2,c2,rfl,l2,k2,r2⟩ wr hb;have hd:=Lh (YcM hlt);clear l1 k1 r1 l2 k2 r2;cases hx:p (b.phi n)
    · rw[hx]at hcl
      have hf2:=Lh (show Yj p b.phis 0=Yj p (b.phis.drop (n+1)) (n+1) by rw[hf.out,hd.out,Yj,if_neg (by rw[hx];decide)]);clear hx;go_wp2_with(go_at_fn k;refine hcl.mono ?_;(rintro e w1 ⟨rfl,hb1⟩;obtain⟨hc1,hf1⟩:=Ya hb1;have hz1:=hb1.size;try simp at hz1;try have hy1:=Nl hz1;try have hx1:=Ns hy1;try have hw1:=Ns hx1));go_roundw
      case rel=>exact⟨n+1,ZN,ZO,BL,hf2⟩
      case measure=>simp[intOf];omega
    · rw[hx]at hcl
      have hf2:=Lh (show Yj p b.phis 0=n by rw[hf.out,hd.out,Yj,if_pos hx]);clear hx;go_wp2_with(go_at_fn k;refine hcl.mono ?_;(rintro e w1 ⟨rfl,hb1⟩;obtain⟨hc1,hf1⟩:=Ya hb1;have hz1:=hb1.size;try simp at hz1;try have hy1:=Nl hz1;try have hx1:=Ns hy1;try have hw1:=Ns hx1));go_ret;exact⟨YV hf2.out.symm,BL⟩
  · have hf2:=Lh (show Yj p b.phis 0=-1 by rw[hf.out,List.drop_eq_nil_of_le ZO];rfl)
    go_wp2;go_ret;exact⟨YV hf2.out.symm,hb⟩
theorem Yh1{W w:World}{A:Option Addr}{c0:Nat}{b:PBlock}(hr:Rd W.heap.size A b.phis 3 (PhiC W W.heap.size))(hl:Len b.phis.length)(hW:Below W.heap.size W w)(k:FuncId)(c:Value)(p:PPhi→Bool)(eg:∀args w,(callFunc k args).run Tryz.prog w=.ok (.enter k args) w)(hp:Yd4 W w k c b.phis p) :
 Calls Tryz.prog 128 #[.slice A b.phis.length c0,.func (.func k) #[] #[c]] w fun e w'=>e=.returned (.bool (b.phis.any p))∧Below w.heap.size w w':=by
 have hi:=Yh0 (c0:=c0) hr hl hW k c p eg hp;go_enter Tryz.func128,Tryz.ntmps128;go_wp2_with(go_at_call 155;refine hi.mono ?_;rintro e w1 ⟨rfl,hb⟩);go_ret;exact⟨Yaf (by simp only[decide_eq_true_eq];exact Ycl p b.phis 0),hb⟩
theorem Yh2:∀args w,(callFunc 129 args).run Tryz.prog w=.ok (.enter 129 args) w:=fun _ _=>by kernel_rfl
theorem Yh3{W w:World}{fv c pv:Value}{F:PFunc}{x:PPhi}(hF:FnV W W.heap.size fv F)(hW:Below W.heap.size W w)(hc:FnBox w c fv)(hp:PhiV W W.heap.size pv x) :
 Calls Tryz.prog 129 #[pv,c] w fun e w'=>e=.returned (.bool (!Yw F x))∧Below w.heap.size w w':=by
 have h1:=fun(w:World) (h:Below W.heap.size W w)=>YhV hF hp h
 have hWs:=hW.size;obtain⟨b,y0,y1,y2,rfl,rfl,hl,h00,h01,h02⟩:=hc;obtain⟨A1,c1,A2,c2,rfl,-⟩:=hp.open_;go_enter Tryz.func129,Tryz.ntmps129;go_wp2_with(go_at_call 130;refine(h1 _ BL).mono ?_;rintro e w1 ⟨rfl,hb⟩);go_ret;exact⟨rfl,BL⟩
theorem Yh4{W w:World}{fv c:Value}{F:PFunc}(hF:FnV W W.heap.size fv F)(hW:Below W.heap.size W w)(hc:FnBox w c fv)(xs:List PPhi):Yd4 W w 129 c xs (fun x=>!Yw F x):=
 fun _ _ _ hp _ hb=>Yh3 hF (hW.trans (hb.mono hW.size)) (hc.later hb) hp
def Yd5(W w:World)(k:FuncId)(c:Value)(ps:List PInst)(p:PInst→Bool):Prop:=
 ∀x,x∈ps→∀pv,InstV W W.heap.size pv x→∀w1,Below w.heap.size w w1→Calls Tryz.prog k #[pv,c] w1 fun e w'=>e=.returned (.bool (p x))∧Below w1.heap.size w1 w'
theorem Ybe{b:PBlock}{i:Nat}(h:i<b.insts.length):b.inst i∈b.insts:=List.mem_of_getElem? (PBlock.inst_get h)
theorem YcN{b:PBlock}{i:Nat}(h:i<b.insts.length):b.insts.drop i=b.inst i::b.insts.drop (i+1):=by
 rw[List.drop_eq_getElem_cons h];have:=PBlock.inst_get h;rw[List.getElem?_eq_getElem h]at this;injection this with this
 rw[this]
set_option maxHeartbeats 400000 in
theorem Yh5{W w:World}{A:Option Addr}{c0:Nat}{b:PBlock}(hr:Rd W.heap.size A b.insts 4 (InstC W W.heap.size))(hl:Len b.insts.length)(hW:Below W.heap.size W w)(k:FuncId)(c:Value)(p:PInst→Bool)(eg:∀args w,(callFunc k args).run Tryz.prog w=.ok (.enter k args) w)(hp:Yd5 W w k c b.insts p) :
 Calls Tryz.prog 160 #[.slice A b.insts.length c0,.func (.func k) #[] #[c]] w fun e w'=>e=.returned (.int .i64 (Yj p b.insts 0))∧Below w.heap.size w w':=by
 unfold Len at hl;go_enter Tryz.func160,Tryz.ntmps160;go_wp2
 go_loopw[5,8] (fun _ i wr=>∃n:Nat,i=.int .i64 n∧n≤b.insts.length∧Below w.heap.size w wr∧Hid (Yj p b.insts 0=Yj p (b.insts.drop n) n)) (fun _ i _=>b.insts.length-(intOf i).toNat)
 case atStart=>exact⟨0,rfl,Nz _,Br _ _,by simp[Hid]⟩
 case round=>
  obtain⟨n,rfl,hn,hb,hf⟩:=hrel
  by_cases hlt:n<b.insts.length
  · obtain⟨bb,off,A1,c1,rfl,hbs,x0,x1,x2,x3,l1,k1,r1⟩:=hr.inst (hW.trans (hb.mono hW.size)) hlt
    have hcl:=hp _ (Ybe hlt) _ ⟨_,rfl,A1,c1,rfl,l1,k1,r1⟩ wr hb;have hd:=Lh (YcN hlt);clear l1 k1 r1;cases hx:p (b.inst n)
    · rw[hx]at hcl
      have hf2:=Lh (show Yj p b.insts 0=Yj p (b.insts.drop (n+1)) (n+1) by rw[hf.out,hd.out,Yj,if_neg (by rw[hx];decide)]);clear hx;go_wp2_with(go_at_fn k;refine hcl.mono ?_;(rintro e w1 ⟨rfl,hb1⟩;obtain⟨hc1,hf1⟩:=Ya hb1;have hz1:=hb1.size;try simp at hz1;try have hy1:=Nl hz1;try have hx1:=Ns hy1;try have hw1:=Ns hx1));go_roundw
      case rel=>exact⟨n+1,ZN,ZO,BL,hf2⟩
      case measure=>simp[intOf];omega
    · rw[hx]at hcl
      have hf2:=Lh (show Yj p b.insts 0=n by rw[hf.out,hd.out,Yj,if_pos hx]);clear hx;go_wp2_with(go_at_fn k;refine hcl.mono ?_;(rintro e w1 ⟨rfl,hb1⟩;obtain⟨hc1,hf1⟩:=Ya hb1;have hz1:=hb1.size;try simp at hz1;try have hy1:=Nl hz1;try have hx1:=Ns hy1;try have hw1:=Ns hx1));go_ret;exact⟨YV hf2.out.symm,BL⟩
  · have hf2:=Lh (show Yj p b.insts 0=-1 by rw[hf.out,List.drop_eq_nil_of_le ZO];rfl)
    go_wp2;go_ret;exact⟨YV hf2.out.symm,hb⟩
theorem Yh6{W w:World}{A:Option Addr}{c0:Nat}{b:PBlock}(hr:Rd W.heap.size A b.insts 4 (InstC W W.heap.size))(hl:Len b.insts.length)(hW:Below W.heap.size W w)(k:FuncId)(c:Value)(p:PInst→Bool)(eg:∀args w,(callFunc k args).run Tryz.prog w=.ok (.enter k args) w)(hp:Yd5 W w k c b.insts p) :
 Calls Tryz.prog 131 #[.slice A b.insts.length c0,.func (.func k) #[] #[c]] w fun e w'=>e=.returned (.bool (b.insts.any p))∧Below w.heap.size w w':=by
 have hi:=Yh5 (c0:=c0) hr hl hW k c p eg hp;go_enter Tryz.func131,Tryz.ntmps131;go_wp2_with(go_at_call 160;refine hi.mono ?_;rintro e w1 ⟨rfl,hb⟩);go_ret;exact⟨Yaf (by simp only[decide_eq_true_eq];exact Ycl p b.insts 0),hb⟩
theorem Yh7:∀args w,(callFunc 132 args).run Tryz.prog w=.ok (.enter 132 args) w:=fun _ _=>by kernel_rfl
theorem Yh8{W w:World}{fv c pv:Value}{F:PFunc}{x:PInst}(hF:FnV W W.heap.size fv F)(hW:Below W.heap.size W w)(hc:FnBox w c fv)(hp:InstV W W.heap.size pv x) :
 Calls Tryz.prog 132 #[pv,c] w fun e w'=>e=.returned (.bool (!Yg F x))∧Below w.heap.size w w':=by
 have h1:=fun(w:World) (h:Below W.heap.size W w)=>YhX hF hp h
 have hWs:=hW.size;obtain⟨b,y0,y1,y2,rfl,rfl,hl,h00,h01,h02⟩:=hc;obtain⟨A1,c1,rfl,-⟩:=hp.open_;go_enter Tryz.func132,Tryz.ntmps132;go_wp2_with(go_at_call 133;refine(h1 _ BL).mono ?_;rintro e w1 ⟨rfl,hb⟩);go_ret;exact⟨rfl,BL⟩
theorem Yh9{W w:World}{fv c:Value}{F:PFunc}(hF:FnV W W.heap.size fv F)(hW:Below W.heap.size W w)(hc:FnBox w c fv)(xs:List PInst):Yd5 W w 132 c xs (fun x=>!Yg F x):=
 fun _ _ _ hp _ hb=>Yh8 hF (hW.trans (hb.mono hW.size)) (hc.later hb) hp
end Go.Proofs.YthhjlbflpjhahaaGreatDoor
namespace Go.Proofs.YthhjlbflpjhahaaGreatDoor
open Go.RowKit Go.WideMaps Go.Maps
set_option maxRecDepth 100000
theorem Yd6:Keyed Tryz.prog 9:=string_keyed Tryz.underlying9
theorem Yia(w:World):(zeroValue 3).run Tryz.prog w=.ok (.int .i64 0) w:=by kernel_rfl
def YcO(s:ByteArray):Lit:=.string s.data.toList
theorem Yd7{s:ByteArray}(h:s.size≤maxLen):keyOf Tryz.prog 9 (.string s)=some (YcO s):=keyOf_string_mk Tryz.underlying9 h
theorem Yib{s t:ByteArray}(h:YcO s=YcO t):s=t:=by
 unfold YcO at h;injection h with h
 obtain⟨a⟩:=s;obtain⟨b⟩:=t;simp only[ByteArray.mk.injEq];exact Array.toList_inj.1 h
def OwnM(w:World)(b n:Nat)(f:ByteArray→Int):Prop:=
 ∃D:DataW Unit,w.ownsMap Tryz.prog 9 (plainElem Tryz.prog 3) b n D∧∀s:ByteArray,D.atKey (YcO s) (.lit (.int .i64 0))=.lit (.int .i64 (f s))
theorem OwnM.made(w:World):OwnM (w.alloc (.map #[] 0)) w.heap.size 0 (fun _=>0):=⟨.map [],World.ownsMap_made _ _ _ _,fun _=>rfl⟩
theorem OwnM.lt{w:World}{b n:Nat}{f:ByteArray→Int}(h:OwnM w b n f):b<w.heap.size:=by
 obtain⟨D,h,_⟩:=h;exact h.lt
theorem OwnM.below{w w':World}{b n:Nat}{f:ByteArray→Int}(h:OwnM w b n f)(hb:Below w.heap.size w w'):OwnM w' b n f:=by
 obtain⟨D,h1,h2⟩:=h;exact⟨D,h1.kept (row:=none) ⟨hb.os,hb.tape,hb.output,hb.size,fun k hk _=>hb.block k hk⟩ ZS,h2⟩
theorem OwnM.look{w:World}{b n:Nat}{f:ByteArray→Int}(h:OwnM w b n f){s:ByteArray}(hs:s.size≤maxLen) :
 (Instr.lookup 226 (.map (some b)) (.string s) false).run Tryz.prog w=.ok (.int .i64 (f s)) w:=by
 obtain⟨D,h1,h2⟩:=h;obtain⟨c,hrun,hat,_⟩:=h1.lookup_int Yd6 Tryz.underlying226 Tryz.underlying3 (Yia _) (Yd7 hs);rw[h2 s]at hat;have hc:f s=c:=by injection hat with hat;injection hat
 rw[hc];exact hrun
theorem Yic(w:World){ops:Array Oper}{rest:List Oper}{o:Oper}{a:Act}{Q:Exit→Act→World→Prop}
 (hg:o.guard=none) (m x v:Operand) (hop:o.op=Op.mapUpdate 226 m x v) {b n:Nat} {f:ByteArray→Int} (hm:a.eval m=.map (some b)) (hown:OwnM w b n f) (hn:n<maxLen)
 (s:ByteArray) (hs:s.size≤maxLen) (hx:a.eval x=.string s) (c:Int) (hv:a.eval v=.int .i64 c) (hc:(Lit.int .i64 c).wf=true)
 (hK:∀w',OwnM w' b (n+1) (fun t=>if t=s then c else f t)→w.grownBy w' (some b)→wpList Tryz.prog ops Q rest (a.put o.dst undef) w'):wpList Tryz.prog ops Q (o::rest) a w:=by
 obtain⟨D,h1,h2⟩:=hown;refine wpList_mapUpdate_own w hg m x v 226 hop 9 3 Yd6 Tryz.underlying226 _ b n D hm h1 hn _ _ _ hx hv (Yd7 hs) _ [] (plainElem_int Tryz.underlying3 hc) ?_;intro w' h3 hg';refine hK w' ⟨_,h3,fun t=>?_⟩ hg'
 by_cases ht:t=s
 · subst ht
   show _=DataW.lit (.int .i64 (if t=t then c else f t));rw[if_pos rfl];exact atKey_put_same h1.isMap (Yd6.key (Yd7 hs)) _ _
 · show _=DataW.lit (.int .i64 (if t=s then c else f t))
   rw[if_neg ht,atKey_put_other (fun e=>ht (Yib e)),h2 t]
def Yd8(w:World)(b o:Nat)(s:ByteArray):Prop:=s.size≤maxLen∧w.cell? ⟨b,o,none⟩=some (.string s)
def sth(xs:List ByteArray)(i:Nat):ByteArray:=xs.getD i ByteArray.empty
theorem Yd9{xs:List ByteArray}{i:Nat}(h:i<xs.length):xs[i]?=some (sth xs i):=by simp[sth,h]
theorem Yid{xs:List ByteArray}{i:Nat}(h:i<xs.length):xs.drop i=sth xs i::xs.drop (i+1):=by
 rw[List.drop_eq_getElem_cons h];have:=Yd9 h;rw[List.getElem?_eq_getElem h]at this;injection this with this
 rw[this]
theorem Yie{xs:List ByteArray}{i:Nat}(h:i<xs.length):xs.take (i+1)=xs.take i++[sth xs i]:=by
 have:=Yd9 h;rw[List.take_add_one,this];rfl
theorem Rd.str{W w:World}{A:Option Addr}{xs:List ByteArray}(h:Rd W.heap.size A xs 1 (Yd8 W))(hw:Below W.heap.size W w){i:Nat}(hi:i<xs.length) :
 ∃b off,A=some ⟨b,off,none⟩∧b<w.heap.size∧(sth xs i).size≤maxLen∧w.cell? ⟨b,off+i,none⟩=some (.string (sth xs i)):=by
 obtain⟨b,off,ha,hb,hr⟩:=h i _ (Yd9 hi);refine⟨b,off,ha,by have:=hw.size;omega,hr.1,?_⟩;rw[hw.cell (p:=⟨b,off+i,none⟩) hb];simpa using hr.2
def YK(seen:List ByteArray)(s:ByteArray):Bool:=seen.any fun x=>decide (x=s)
def YN:List ByteArray→List ByteArray→Bool
 |_,[]=>true
 |seen,s::r=>Yar s&&!(YK seen s)&&YN (seen++[s]) r
def cnt(seen:List ByteArray)(t:ByteArray):Int:=if YK seen t then 1 else 0
theorem Yif{seen:List ByteArray}{s:ByteArray}(h:YK seen s=false):(fun t=>if t=s then cnt seen s+1 else cnt seen t)=cnt (seen++[s]):=by
 funext t;unfold cnt
 by_cases ht:t=s
 · subst ht;rw[if_pos rfl,h];simp[YK]
 · rw[if_neg ht,show YK (seen++[s]) t=YK seen t by unfold YK;rw[List.any_append];simp[show ¬s=t from fun e=>ht e.symm]]
set_option maxHeartbeats 1000000 in
theorem Yfz{W w:World}{A:Option Addr}{c0:Nat}{xs:List ByteArray}(hU:Uni W)(hr:Rd W.heap.size A xs 1 (Yd8 W))(hl:xs.length≤1048576)(hW:Below W.heap.size W w) :
 Calls Tryz.prog 154 #[.slice A xs.length c0] w fun e w'=>e=.returned (.bool (YN [] xs))∧Below w.heap.size w w':=by
 have hmm:=@run_makeMap Tryz.prog;go_enter Tryz.func154,Tryz.ntmps154;go_wp2
 go_loopw[9] (fun i wr=>∃n:Nat,i=.int .i64 n∧n≤xs.length∧Below w.heap.size w wr∧OwnM wr w.heap.size n (cnt (xs.take n))∧Hid (YN [] xs=YN (xs.take n) (xs.drop n))) (fun i _=>xs.length-(intOf i).toNat)
 case atStart=>exact⟨0,rfl,Nz _,BL,by rw[show cnt (xs.take 0)=fun _=>0 from by funext t;rfl];exact OwnM.made w,by simp[Hid]⟩
 case round=>
  obtain⟨n,rfl,hn,hb,hm,hf⟩:=hrel
  by_cases hlt:n<xs.length
  · have hWr:=hW.trans (hb.mono hW.size)
    obtain⟨b,off,rfl,hbs,hsz,hc⟩:=hr.str hWr hlt;have hnm:=Yhz hU hWr (sth xs n) hsz;have hd:=Lh (Yid hlt);have htk:=Lh (Yie hlt);have hml:=hm.lt;cases hx:Yar (sth xs n)
    · have hf2:=Lh (show YN [] xs=false by rw[hf.out,hd.out,YN,hx];rfl)
      rw[hx]at hnm;clear hx;go_wp2_with(go_at_call 173;refine hnm.mono ?_;(rintro e w1 ⟨rfl,hb1⟩;obtain⟨hc1,hf1⟩:=Ya hb1;have hz1:=hb1.size;try simp at hz1;try have hy1:=Nl hz1;try have hx1:=Ns hy1;try have hw1:=Ns hx1));go_ret;exact⟨Yb hf2.out.symm,BL⟩
    · rw[hx]at hnm
      cases hs:YK (xs.take n) (sth xs n)
      rotate_left
      · have hf2:=Lh (show YN [] xs=false by rw[hf.out,hd.out,YN,hs];simp)
        have hk:cnt (xs.take n) (sth xs n)=1:=by rw[cnt,if_pos hs]
        clear hx hs;go_wp2_with(go_at_call 173;refine hnm.mono ?_;(rintro e w1 ⟨rfl,hb1⟩;obtain⟨hc1,hf1⟩:=Ya hb1;have hz1:=hb1.size;try simp at hz1;try have hy1:=Nl hz1;try have hx1:=Ns hy1;try have hw1:=Ns hx1);have hlk:=(hm.below hb1).look hsz;rw[hk]at hlk);go_ret;exact⟨Yb hf2.out.symm,BL⟩
      · have hf2:=Lh (show YN [] xs=YN (xs.take (n+1)) (xs.drop (n+1)) by rw[hf.out,hd.out,YN,hx,hs,htk.out];rfl)
        have hk:cnt (xs.take n) (sth xs n)=0:=by rw[cnt,hs];rfl
        have HS:=Lh (Yif hs);have HK:=Lh hk;clear hx hs;go_wp2_with(first|(go_at_call 173;refine hnm.mono ?_;(rintro e w1 ⟨rfl,hb1⟩;obtain⟨hc1,hf1⟩:=Ya hb1;have hz1:=hb1.size;try simp at hz1;try have hy1:=Nl hz1;try have hx1:=Ns hy1;try have hw1:=Ns hx1);have hm1:=hm.below hb1;have hlk:=hm1.look hsz;rw[hk]at hlk;clear hk)|(at_mapUpdate;refine Yic _ rfl _ _ _ rfl rfl hm1 (by unfold maxLen;omega) (sth xs n) hsz rfl _ rfl ZD ?_;intro w2 hm2 hg2));go_roundw
        case rel=>exact⟨n+1,ZN,ZO,(hb.trans (hb1.mono hb.size)).grown hg2 (by have:=hb1.size;omega) (fun k hk=>by cases hk;exact Nr _),by rw[htk.out,← HS.out,HK.out];exact hm2,hf2⟩
        case measure=>simp[intOf];omega
  · have hf2:=Lh (show YN [] xs=true by rw[hf.out,List.drop_eq_nil_of_le ZO];rfl)
    go_wp2;go_ret;exact⟨Yb hf2.out.symm,hb⟩
end Go.Proofs.YthhjlbflpjhahaaGreatDoor
namespace Go.Proofs.YthhjlbflpjhahaaGreatDoor
open Go.RowKit
set_option maxRecDepth 100000
def Yag(F:PFunc):Prop:=F.vars.length≤1048575∧F.blocks.length≤1048575∧∀i,i<F.blocks.length→(F.blk i).phis.length≤1048576∧(F.blk i).insts.length≤1048576
def YaI(t:Int):Bool:=decide (t=0)||decide (t=1)||decide (t=2)
theorem Yig(t:Int):(YcL t).toList.isEmpty=!YaI t:=by
 unfold YcL YaI
 by_cases h0:t=0
 · subst h0;decide +kernel
 · by_cases h1:t=1
   · subst h1;decide +kernel
   · by_cases h2:t=2
     · subst h2;decide +kernel
     · simp only[h0,h1,h2];decide +kernel
theorem Tryz.info9:(Tryz.prog.info? 9).map (fun i=>(i.zero,i.size,i.bytes))=some (some (.string ByteArray.empty),1,16):=by kernel_rfl
def vnames(F:PFunc):List ByteArray:=F.vars.map (·.name)
def bnames(F:PFunc):List ByteArray:=F.blocks.map (·.name)
theorem Ydq{F:PFunc}{i:Nat}(h:i<F.vars.length):F.vars.drop i=F.var i::F.vars.drop (i+1):=by
 rw[List.drop_eq_getElem_cons h];have:=PFunc.var_get h;rw[List.getElem?_eq_getElem h]at this;injection this with this
 rw[this]
theorem YbX{F:PFunc}{i:Nat}(h:i<F.blocks.length):F.blocks.drop i=F.blk i::F.blocks.drop (i+1):=by
 rw[List.drop_eq_getElem_cons h];have:=PFunc.blk_get h;rw[List.getElem?_eq_getElem h]at this;injection this with this
 rw[this]
theorem Yea{F:PFunc}{i:Nat}(h:i<F.vars.length):(vnames F).take (i+1)=(vnames F).take i++[(F.var i).name]:=by
 rw[List.take_add_one];simp[vnames,PFunc.var_get h]
theorem Yeb{F:PFunc}{i:Nat}(h:i<F.blocks.length):(bnames F).take (i+1)=(bnames F).take i++[(F.blk i).name]:=by
 rw[List.take_add_one];simp[bnames,PFunc.blk_get h]
def Yak:List Int→Nat→Bool
 |[],_=>true
 |p::r,i=>decide (p=i)&&Yak r (i+1)
def Y6(F:PFunc):Bool:=F.vars.all (fun v=>YaI v.ty)&&Yak F.params 0&&decide (F.vars.length≤512)&&decide (F.params.length≤8)&&decide (F.params.length≤F.vars.length)&&decide (1≤F.blocks.length)&&decide (F.blocks.length≤64)&&
 YN [] (vnames F)&&YN [] (bnames F)
theorem Rd.of_own_str{w:World}{base:Nat}{e:TypeId}{c n:Nat}{A:Option Addr}{xs:List ByteArray}(hsz:∀s∈xs,s.size≤maxLen)(h:w.ownsRow base e 1 (.slice A n c) n (xs.map Value.string)):n=xs.length∧Rd w.heap.size A xs 1 (Yd8 w):=by
 obtain⟨hl,h⟩:=h;have hn:n=xs.length:=by simpa using hl.symm
 rcases h with⟨hv,hn0⟩|⟨g,cap,cur,hv,hb,hg,hnc,hcm,hs,hcur⟩
 · injection hv with h1 h2 h3
   subst h1 h2 h3;refine⟨hn,fun i x hx=>?_⟩;have:xs=[]:=List.eq_nil_of_length_eq_zero hn.symm;subst this;simp at hx
 · injection hv with h1 h2 h3
   subst h1 h3;refine⟨hn,fun i x hx=>⟨g,0,rfl,(Array.getElem?_eq_some_iff.1 hg).1,hsz x (List.mem_of_getElem? hx),?_⟩⟩;rw[cell_of_row w g _ cur e (0,0) hg];have:(cur.toList.take (n*1))[i]?=some (.string x):=by rw[hcur];simp[hx]
   rw[List.getElem?_take]at this;split at this
   · simpa using this
   · cases this
theorem Ym{w w':World}{x y z:Value}{t:TypeId}(hb:Below (w.heap.size+1) (w.alloc (.cells #[x,y,z] t)) w') :
 w.heap.size<w'.heap.size∧w'.cell? ⟨w.heap.size,0,none⟩=some x∧w'.cell? ⟨w.heap.size,1,none⟩=some y∧w'.cell? ⟨w.heap.size,2,none⟩=some z:=by
 have hg:=heap_alloc_new w (.cells #[x,y,z] t);have hs:=hb.size;simp at hs;exact⟨hs,(hb.cell (p:=⟨w.heap.size,0,none⟩) (Nat.lt_succ_self _)).trans (cell_of_row _ _ 0 _ _ _ hg),(hb.cell (p:=⟨w.heap.size,1,none⟩) (Nat.lt_succ_self _)).trans (cell_of_row _ _ 1 _ _ _ hg),(hb.cell (p:=⟨w.heap.size,2,none⟩) (Nat.lt_succ_self _)).trans (cell_of_row _ _ 2 _ _ _ hg)⟩
set_option maxHeartbeats 4000000 in
theorem Yih{W w:World}{fv:Value}{F:PFunc}(hU:Uni W)(hF:FnV W W.heap.size fv F)(hW:Below W.heap.size W w)(hS:Yag F) :
 Calls Tryz.prog 127 #[fv] w fun e w'=>e=.returned (.bool (Y6 F))∧Below w.heap.size w w':=by
 obtain⟨A0,c0,A1,c1,A2,c2,rfl,l0,l1,l2,-,-,-,r0,r1,r2⟩:=id hF.open_;obtain⟨s0,s1,-⟩:=id hS;unfold Len at *;have hWs:=hW.size;have hvz:∀s∈vnames F,s.size≤maxLen:=fun s hs=>by
  obtain⟨v,hv,rfl⟩:=List.mem_map.1 hs;obtain⟨i,hi⟩:=List.mem_iff_getElem?.1 hv;obtain⟨b,off,_,_,hr⟩:=r0 i v hi;exact hr.1
 have hbz:∀s∈bnames F,s.size≤maxLen:=fun s hs=>by
  obtain⟨v,hv,rfl⟩:=List.mem_map.1 hs;obtain⟨i,hi⟩:=List.mem_iff_getElem?.1 hv;obtain⟨b,off,_,_,hr⟩:=r2 i v hi;exact hr.1
 have hb0:=(Br w.heap.size w).alloc (Nr _) (.cells #[.slice A0 F.vars.length c0,.slice A1 F.params.length c1,.slice A2 F.blocks.length c2] 26);go_enter Tryz.func127,Tryz.ntmps127;go_wp2
 go_loopw[3,14] (fun v i wr=>∃n:Nat,i=.int .i64 n∧n≤F.vars.length∧Below (w.heap.size+1) (w.alloc (.cells #[.slice A0 F.vars.length c0,.slice A1 F.params.length c1,.slice A2 F.blocks.length c2] 26)) wr∧
  wr.ownsRow (w.heap.size+1) 9 1 v n (((vnames F).take n).map Value.string)∧Hid (F.vars.all (fun v=>YaI v.ty)=(F.vars.drop n).all (fun v=>YaI v.ty))) (fun _ i _=>F.vars.length-(intOf i).toNat)
 case atStart=>exact⟨0,rfl,Nz _,Br _ _,⟨rfl,.inl ⟨rfl,rfl⟩⟩,by simp[Hid]⟩
 case round=>
  obtain⟨n,rfl,hn,hb,hown,hf⟩:=hrel;have hbs:=hb.size;simp at hbs;have hWr:Below W.heap.size W wr:=(hW.alloc hWs _).trans (hb.mono ZO)
  by_cases hlt:n<F.vars.length
  · obtain⟨b,off,rfl,hbb,hnz,hc0,hc1⟩:=r0.var hWr hlt
    have hd:=Lh (Ydq hlt);have htk:=Lh (Yea hlt);have hte:=Yig (F.var n).ty;cases ho:YaI (F.var n).ty
    · have HF:=Lh (show Y6 F=false by rw[Y6,hf.out,hd.out,List.all_cons,ho];rfl)
      rw[ho]at hte;clear ho
      go_wp2_with(first
       |(at_builtin;refine YcK _ rfl _ _ 198 rfl (w.heap.size+1) 9 16 Tryz.underlying198 Tryz.info9 rfl _ _ _ rfl (hown.alloc _) _ ZS _ rfl rfl ZO ZD ZX ?_;intro v' w3 hown2 hg;have hgs:=hg.size;simp at hgs;have hgl:=Nl hgs;have hgm:=Ns hgl;have hg1:=Yfn hown hg ⟨wr.heap.size,1,none⟩ (.inr (Nr _)) ZX;have hB3:=Ybc (hown.alloc _) hg (hb.alloc ZO _) (Nr _) ZX)
       |(go_at_call 153;refine(Yfs _).mono ?_;rintro e w2 ⟨rfl,rfl⟩))
      go_ret;exact⟨Yb HF.out.symm,hb0.trans (hB3.mono (Nat.le_succ _))⟩
    · have HF:=Lh (show(F.vars.all fun v=>YaI v.ty)=((F.vars.drop (n+1)).all fun v=>YaI v.ty) by rw[hf.out,hd.out,List.all_cons,ho];rfl)
      rw[ho]at hte;clear ho
      go_wp2_with(first
       |(at_builtin;refine YcK _ rfl _ _ 198 rfl (w.heap.size+1) 9 16 Tryz.underlying198 Tryz.info9 rfl _ _ _ rfl (hown.alloc _) _ ZS _ rfl rfl ZO ZD ZX ?_;intro v' w3 hown2 hg;have hgs:=hg.size;simp at hgs;have hgl:=Nl hgs;have hgm:=Ns hgl;have hg1:=Yfn hown hg ⟨wr.heap.size,1,none⟩ (.inr (Nr _)) ZX;have hB3:=Ybc (hown.alloc _) hg (hb.alloc ZO _) (Nr _) ZX)
       |(go_at_call 153;refine(Yfs _).mono ?_;rintro e w2 ⟨rfl,rfl⟩))
      go_roundw
      case rel=>exact⟨n+1,ZN,ZO,hB3,by rw[htk.out];simpa using hown2,HF⟩
      case measure=>simp[intOf];omega
  · have hnl:n=F.vars.length:=by omega
    have hf1:=Lh (show(F.vars.all fun v=>YaI v.ty)=true by rw[hf.out,hnl,List.drop_eq_nil_of_le (Nr _)];rfl);rw[hnl,show(vnames F).take F.vars.length=vnames F from List.take_of_length_le (by simp[vnames])]at hown;clear hf hn hlt;subst hnl;obtain⟨hq,-,hq1,hq2⟩:=Ym hb;go_wp2;obtain⟨wo,rfl⟩:∃wo:World,wo=wr:=⟨_,rfl⟩
    go_loopw[4,31] (fun v i wr=>∃n:Nat,i=.int .i64 n∧n≤F.blocks.length∧Below wo.heap.size wo wr∧wr.ownsRow wo.heap.size 9 1 v n (((bnames F).take n).map Value.string)) (fun _ i _=>F.blocks.length-(intOf i).toNat)
    case atStart=>exact⟨0,rfl,Nz _,Br _ _,⟨rfl,.inl ⟨rfl,rfl⟩⟩⟩
    case round=>
     obtain⟨n,rfl,hn,hb2,hown2⟩:=hrel;have hbs2:=hb2.size
     by_cases hlt:n<F.blocks.length
     · have hWr2:Below W.heap.size W wr:=hWr.trans (hb2.mono hWr.size)
       obtain⟨b,off,A3,c3,A4,c4,rfl,hbb,hnz,hy0,hy1,hy2,hy3,hy4,hy5,hy6,-⟩:=r2.blk hWr2 hlt;have htk:=Lh (Yeb hlt);go_wp2_with(at_builtin;refine YcK _ rfl _ _ 198 rfl wo.heap.size 9 16 Tryz.underlying198 Tryz.info9 rfl _ _ _ rfl (hown2.alloc _) _ ZS _ rfl rfl ZO ZD ZX ?_;intro v' w3 hown3 hg;have hB3:=Ybc (hown2.alloc _) hg (hb2.alloc ZO _) (Nr _) ZX);go_roundw
       case rel=>exact⟨n+1,ZN,ZO,hB3,by rw[htk.out];simpa using hown3⟩
       case measure=>simp[intOf];omega
     · have hnl:n=F.blocks.length:=by omega
       rw[hnl,show(bnames F).take F.blocks.length=bnames F from List.take_of_length_le (by simp[bnames])]at hown2;clear hn hlt;subst hnl;have hown1:=YA hown hb2;have hp2:wr.cell? ⟨w.heap.size,1,none⟩=some (.slice A1 F.params.length c1):=(hb2.cell (p:=⟨w.heap.size,1,none⟩) hq).trans hq1;have hp1:=Nt hq hb2.size;have hB:=(hb0.trans (hb.mono (Nat.le_succ _))).trans (hb2.mono (Nat.le_of_lt hq));have hWr2:Below W.heap.size W wr:=hWr.trans (hb2.mono hWr.size);clear hown hq hq1 hq2 hb;obtain⟨A5,c5,rfl⟩:=Yh hown1;obtain⟨A6,c6,rfl⟩:=Yh hown2;obtain⟨-,R5⟩:=Rd.of_own_str hvz hown1;obtain⟨-,R6⟩:=Rd.of_own_str hbz hown2;go_wp2
       go_loop[9,10,44] (fun _ _ i=>∃n:Nat,i=.int .i64 n∧n≤F.params.length∧Hid (Yak F.params 0=Yak (F.params.drop n) n)) (fun _ _ i=>F.params.length-(intOf i).toNat)
       case atStart=>exact⟨0,rfl,Nz _,by simp[Hid]⟩
       case round=>
        obtain⟨n,rfl,hn,hf⟩:=hrel
        by_cases hlt:n<F.params.length
        · obtain⟨b,off,rfl,hbb,hy⟩:=r1.int hWr2 hlt
          have hd:=Lh (Yat hlt)
          by_cases hp:ith F.params n=n
          · have HF:=Lh (show Yak F.params 0=Yak (F.params.drop (n+1)) (n+1) by rw[hf.out,hd.out,Yak,hp];simp)
            have hp':(ith F.params n !=(n:Int))=false:=by simpa using hp
            clear hp;go_wp2
            go_round
            case rel=>exact⟨n+1,ZN,ZO,HF⟩
            case measure=>simp[intOf];omega
          · have HF:=Lh (show Y6 F=false by rw[Y6,hf.out,hd.out,Yak];simp[hp])
            have hp':(ith F.params n !=(n:Int))=true:=by simpa using hp
            clear hp;go_wp2;go_ret;exact⟨Yb HF.out.symm,hB⟩
        · have hf3:=Lh (show Yak F.params 0=true by rw[hf.out,List.drop_eq_nil_of_le ZO];rfl)
          clear hf hn;have HN:=Lh (show Y6 F=(decide (F.vars.length≤512)&&decide (F.params.length≤8)&&decide (F.params.length≤F.vars.length)&&decide (1≤F.blocks.length)&&decide (F.blocks.length≤64)&&YN [] (vnames F)&&YN [] (bnames F)) by rw[Y6,hf1.out,hf3.out];rfl);clear hf1 hf3;have hu1:=fun(w:World) (h:Below wr.heap.size wr w)=>Yfz (c0:=c5) (hU.below hWr2) R5 (by simp[vnames];omega) h
          have hu2:=fun(w:World) (h:Below wr.heap.size wr w)=>Yfz (c0:=c6) (hU.below hWr2) R6 (by simp[bnames];omega) h
          rw[show(vnames F).length=F.vars.length by simp[vnames]]at hu1;rw[show(bnames F).length=F.blocks.length by simp[bnames]]at hu2
          by_cases t1:F.vars.length≤512
          case neg=>
           have HF:=Lh (show Y6 F=false by rw[HN.out];simp[t1]);go_wp2;go_ret;exact⟨Yb HF.out.symm,hB⟩
          by_cases t2:F.params.length≤8∧F.params.length≤F.vars.length
          case neg=>
           have HF:=Lh (show Y6 F=false by rw[HN.out];simp;omega);go_wp2;go_ret;exact⟨Yb HF.out.symm,hB⟩
          obtain⟨t2,t3⟩:=t2
          by_cases t4:1≤F.blocks.length
          case neg=>
           have HF:=Lh (show Y6 F=false by rw[HN.out];simp[t4]);go_wp2;go_ret;exact⟨Yb HF.out.symm,hB⟩
          by_cases t5:F.blocks.length≤64
          case neg=>
           have HF:=Lh (show Y6 F=false by rw[HN.out];simp[t5]);go_wp2;go_ret;exact⟨Yb HF.out.symm,hB⟩
          have HM:=Lh (show Y6 F=(YN [] (vnames F)&&YN [] (bnames F)) by rw[HN.out];simp[t1,t2,t3,t4,t5]);cases hx:YN [] (vnames F)
          · rw[hx]at HM hu1
            clear hx;go_wp2_with(go_at_call 154;refine(hu1 _ (Br _ _)).mono ?_;(rintro e w1 ⟨rfl,hb1⟩;obtain⟨hc1,hf1⟩:=Ya hb1;have hz1:=hb1.size;try simp at hz1;try have hy1:=Nl hz1;try have hx1:=Ns hy1;try have hw1:=Ns hx1));go_ret;exact⟨Yb HM.out.symm,hB.trans (hb1.mono hB.size)⟩
          · rw[hx]at HM hu1
            clear hx;go_wp2_with(go_at_call 154;first|(refine(hu2 _ hb1).mono ?_;(rintro e w2 ⟨rfl,hb2⟩;obtain⟨hc2,hf2⟩:=Ya hb2;have hz2:=hb2.size;try simp at hz2;try have hy2:=Nl hz2;try have hx2:=Ns hy2;try have hw2:=Ns hx2))|(refine(hu1 _ (Br _ _)).mono ?_;(rintro e w1 ⟨rfl,hb1⟩;obtain⟨hc1,hf1⟩:=Ya hb1;have hz1:=hb1.size;try simp at hz1;try have hy1:=Nl hz1;try have hx1:=Ns hy1;try have hw1:=Ns hx1)));go_ret;exact⟨Yb HM.out.symm,(hB.trans (hb1.mono hB.size)).trans (hb2.mono ZO)⟩
end Go.Proofs.YthhjlbflpjhahaaGreatDoor
