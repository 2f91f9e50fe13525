/- The walks of package print, on: ends, and lists of phis and instructions. -/
import Derived.Test.YtjlclkcmfokobaaGreatDoorPrintZ
import Derived.Maps.OwnOps
import Derived.Maps.OwnSet
import Derived.Maps.Views
namespace Go.Proofs.YtjlclkcmfokobaaGreatDoor
open Go.RowKit
set_option maxRecDepth 100000
theorem YgV:Program.eqGuardType Tryz.prog (Program.depth Tryz.prog) 37=false:=by kernel_rfl
theorem Ykw(d:Nat)(a b c e:Int)(w:World):(Op.equalIn (d+2) 37 (.agg #[.int .i64 a,.int .i64 b]) (.agg #[.int .i64 c,.int .i64 e])).run Tryz.prog w=.ok (a==c&&b==e) w:=by
 rw[Op.equalIn];simp only[Sem.run_bind,run_underlying Tryz.underlying37,Result.andThen];have hs:(sizeOf 3).run Tryz.prog w=.ok 1 w:=by kernel_rfl
 simp only[hs];have p0:∀x y:Int,(part 3 #[.int .i64 x,.int .i64 y] 0).run Tryz.prog w=.ok (.int .i64 x) w:=fun x y=>by kernel_rfl
 have p1:∀x y:Int,(part 3 #[.int .i64 x,.int .i64 y] 1).run Tryz.prog w=.ok (.int .i64 y) w:=fun x y=>by kernel_rfl
 have q:∀x y:Int,(Op.equalIn (d+1) 3 (.int .i64 x) (.int .i64 y)).run Tryz.prog w=.ok (x==y) w:=fun x y=>run_equalIn_int w d _ _ _ x y Tryz.underlying3
 by_cases h1:a=c
 · subst h1
   by_cases h2:b=e
   · subst h2;simp[List.range'_succ,Sem.run_bind,Result.andThen,p0,p1,q]
   · simp[List.range'_succ,Sem.run_bind,Result.andThen,p0,p1,q,h2]
 · simp[List.range'_succ,Sem.run_bind,Result.andThen,p0,q,h1]
theorem YgW(a b c e:Int)(w:World):(binOp .eql 37 (.agg #[.int .i64 a,.int .i64 b]) (.agg #[.int .i64 c,.int .i64 e])).run Tryz.prog w=.ok (.bool (a==c&&b==e)) w:=by
 rw[run_eql_struct,Ykw 9998];rfl
def YpX(t:PTerm):Value:=.agg #[.int .i64 t.kind,.int .i64 t.var,.int .i64 t.t0,.int .i64 t.t1]
def YJ(F:PFunc)(t:PTerm):Bool:=
 if t.kind=0 then inB t.t0 F.blocks.length&&decide (t.t1=0)&&decide (t.var=0)
 else if t.kind=1 then inB t.var F.vars.length&&inB t.t0 F.blocks.length&&inB t.t1 F.blocks.length
 else if t.kind=2 then inB t.var F.vars.length&&(decide (t.t0=0)&&decide (t.t1=0))
 else false
set_option maxHeartbeats 2000000 in
theorem Ykx{W w:World}{fv:Value}{F:PFunc}(t:PTerm)(hF:FnV W W.heap.size fv F) :
 Calls Tryz.prog 165 #[fv,.agg #[.int .i64 t.kind,.int .i64 t.var,.int .i64 t.t0,.int .i64 t.t1]] w fun e w'=>e=.returned (.bool (YJ F t))∧Below w.heap.size w w':=by
 obtain⟨A0,c0,A1,c1,A2,c2,rfl,-⟩:=id hF.open_;obtain⟨kind,var,t0,t1⟩:=t;have a0:=fun w=>Ye1 (w:=w) hF t0
 have a1:=fun w=>Ye1 (w:=w) hF t1
 have v0:=fun w=>Yd6 (w:=w) hF var
 by_cases k0:kind=0
 · subst k0
   have HF:=Lh (show YJ F ⟨0,var,t0,t1⟩=(inB t0 F.blocks.length&&decide (t1=0)&&decide (var=0)) by simp[YJ]);cases b0:inB t0 F.blocks.length
   · rw[b0]at HF a0
     clear b0;go_enter Tryz.func165,Tryz.ntmps165;go_wp2_with(go_at_call 193;refine(a0 _).mono ?_;(rintro e w1 ⟨rfl,hb1⟩;obtain⟨hc1,hf1⟩:=Ya hb1;have hz1:=hb1.size;try simp at hz1;try have hy1:=Nl hz1;try have hx1:=Ns hy1;try have hw1:=Ns hx1));go_ret;exact⟨Yb (by rw[HF.out];simp),BL⟩
   · rw[b0]at HF a0
     clear b0
     by_cases h1:t1=0
     all_goals
      go_enter Tryz.func165,Tryz.ntmps165;go_wp2_with(go_at_call 193;refine(a0 _).mono ?_;(rintro e w1 ⟨rfl,hb1⟩;obtain⟨hc1,hf1⟩:=Ya hb1;have hz1:=hb1.size;try simp at hz1;try have hy1:=Nl hz1;try have hx1:=Ns hy1;try have hw1:=Ns hx1));go_ret;exact⟨Yb (by rw[HF.out,Bool.eq_iff_iff];simp[h1]),BL⟩
 by_cases k1:kind=1
 · subst k1
   have HF:=Lh (show YJ F ⟨1,var,t0,t1⟩=(inB var F.vars.length&&inB t0 F.blocks.length&&inB t1 F.blocks.length) by simp[YJ]);clear k0;cases b0:inB var F.vars.length
   · rw[b0]at HF v0
     clear b0;go_enter Tryz.func165,Tryz.ntmps165;go_wp2_with(go_at_call 190;refine(v0 _).mono ?_;(rintro e w1 ⟨rfl,hb1⟩;obtain⟨hc1,hf1⟩:=Ya hb1;have hz1:=hb1.size;try simp at hz1;try have hy1:=Nl hz1;try have hx1:=Ns hy1;try have hw1:=Ns hx1));go_ret;exact⟨Yb (by rw[HF.out];simp),BL⟩
   rw[b0]at HF v0;clear b0;cases b1:inB t0 F.blocks.length
   · rw[b1]at HF a0
     clear b1;go_enter Tryz.func165,Tryz.ntmps165;go_wp2_with(first|(go_at_call 190;refine(v0 _).mono ?_;(rintro e w1 ⟨rfl,hb1⟩;obtain⟨hc1,hf1⟩:=Ya hb1;have hz1:=hb1.size;try simp at hz1;try have hy1:=Nl hz1;try have hx1:=Ns hy1;try have hw1:=Ns hx1))|(go_at_call 193;refine(a0 _).mono ?_;(rintro e w2 ⟨rfl,hb2⟩;obtain⟨hc2,hf2⟩:=Ya hb2;have hz2:=hb2.size;try simp at hz2;try have hy2:=Nl hz2;try have hx2:=Ns hy2;try have hw2:=Ns hx2)));go_ret;exact⟨Yb (by rw[HF.out];simp),BL⟩
   rw[b1]at HF a0;clear b1;go_enter Tryz.func165,Tryz.ntmps165;go_wp2_with(first|(go_at_call 190;refine(v0 _).mono ?_;(rintro e w1 ⟨rfl,hb1⟩;obtain⟨hc1,hf1⟩:=Ya hb1;have hz1:=hb1.size;try simp at hz1;try have hy1:=Nl hz1;try have hx1:=Ns hy1;try have hw1:=Ns hx1))|(go_at_call 193;with_reducible refine(a0 _).mono ?_;(rintro e w2 ⟨rfl,hb2⟩;obtain⟨hc2,hf2⟩:=Ya hb2;have hz2:=hb2.size;try simp at hz2;try have hy2:=Nl hz2;try have hx2:=Ns hy2;try have hw2:=Ns hx2)));go_wp2_with(go_at_call 193;refine(a1 _).mono ?_;(rintro e w3 ⟨rfl,hb3⟩;obtain⟨hc3,hf3⟩:=Ya hb3;have hz3:=hb3.size;try simp at hz3;try have hy3:=Nl hz3;try have hx3:=Ns hy3;try have hw3:=Ns hx3));go_ret;exact⟨Yb (by rw[HF.out];simp),BL⟩
 by_cases k2:kind=2
 · subst k2
   have HF:=Lh (show YJ F ⟨2,var,t0,t1⟩=(inB var F.vars.length&&(decide (t0=0)&&decide (t1=0))) by simp[YJ]);clear k0 k1;have heq:=YgW t0 t1 0 0;have hgd:=YgV;cases b0:inB var F.vars.length
   all_goals
    rw[b0]at HF v0;clear b0;go_enter Tryz.func165,Tryz.ntmps165;go_wp2_with(go_at_call 190;refine(v0 _).mono ?_;(rintro e w1 ⟨rfl,hb1⟩;obtain⟨hc1,hf1⟩:=Ya hb1;have hz1:=hb1.size;try simp at hz1;try have hy1:=Nl hz1;try have hx1:=Ns hy1;try have hw1:=Ns hx1));go_ret;exact⟨Yb (by rw[HF.out,Bool.eq_iff_iff];simp),BL⟩
 have HF:=Lh (show YJ F ⟨kind,var,t0,t1⟩=false by simp[YJ,k0,k1,k2]);go_enter Tryz.func165,Tryz.ntmps165;go_wp2;go_ret;exact⟨Yb HF.out.symm,BL⟩
def Yfh(W w:World)(k:FuncId)(c:Value)(ps:List PPhi)(p:PPhi→Bool):Prop:=
 ∀x,x∈ps→∀pv,PhiV W W.heap.size pv x→∀w1,Below w.heap.size w w1→Calls Tryz.prog k #[pv,c] w1 fun e w'=>e=.returned (.bool (p x))∧Below w1.heap.size w1 w'
theorem Ybo{b:PBlock}{i:Nat}(h:i<b.phis.length):b.phi i∈b.phis:=List.mem_of_getElem? (PBlock.phi_get h)
theorem Yds{b:PBlock}{i:Nat}(h:i<b.phis.length):b.phis.drop i=b.phi i::b.phis.drop (i+1):=by
 rw[List.drop_eq_getElem_cons h];have:=PBlock.phi_get h;rw[List.getElem?_eq_getElem h]at this;injection this with this
 rw[this]
set_option maxHeartbeats 400000 in
theorem Yky{W w:World}{A:Option Addr}{c0:Nat}{b:PBlock}(hr:Rd W.heap.size A b.phis 3 (PhiC W W.heap.size))(hl:Len b.phis.length)(hW:Below W.heap.size W w)(k:FuncId)(c:Value)(p:PPhi→Bool)(eg:∀args w,(callFunc k args).run Tryz.prog w=.ok (.enter k args) w)(hp:Yfh W w k c b.phis p) :
 Calls Tryz.prog 189 #[.slice A b.phis.length c0,.func (.func k) #[] #[c]] w fun e w'=>e=.returned (.int .i64 (Yg p b.phis 0))∧Below w.heap.size w w':=by
 unfold Len at hl;go_enter Tryz.func189,Tryz.ntmps189;go_wp2
 go_loopw[5,8] (fun _ i wr=>∃n:Nat,i=.int .i64 n∧n≤b.phis.length∧Below w.heap.size w wr∧Hid (Yg p b.phis 0=Yg p (b.phis.drop n) n)) (fun _ i _=>b.phis.length-(intOf i).toNat)
 case atStart=>exact⟨0,rfl,Nz _,Br _ _,by simp[Hid]⟩
 case round=>
  obtain⟨n,rfl,hn,hb,hf⟩:=hrel
  by_cases hlt:n<b.phis.length
  · obtain⟨bb,off,A1,c1,A2,c2,rfl,hbs,x0,x1,x2,l1,l2,k1,k2,r1,r2⟩:=hr.phi (hW.trans (hb.mono hW.size)) hlt
    have hcl:=hp _ (Ybo hlt) _ ⟨_,_,rfl,⟨A1,c1,rfl,l1,k1,r1⟩,A2,c2,rfl,l2,k2,r2⟩ wr hb;have hd:=Lh (Yds hlt);clear l1 k1 r1 l2 k2 r2;cases hx:p (b.phi n)
    · rw[hx]at hcl
      have hf2:=Lh (show Yg p b.phis 0=Yg p (b.phis.drop (n+1)) (n+1) by rw[hf.out,hd.out,Yg,if_neg (by rw[hx];decide)]);clear hx;go_wp2_with(go_at_fn k;refine hcl.mono ?_;(rintro e w1 ⟨rfl,hb1⟩;obtain⟨hc1,hf1⟩:=Ya hb1;have hz1:=hb1.size;try simp at hz1;try have hy1:=Nl hz1;try have hx1:=Ns hy1;try have hw1:=Ns hx1));go_roundw
      case rel=>exact⟨n+1,ZN,ZO,BL,hf2⟩
      case measure=>simp[intOf];omega
    · rw[hx]at hcl
      have hf2:=Lh (show Yg p b.phis 0=n by rw[hf.out,hd.out,Yg,if_pos hx]);clear hx;go_wp2_with(go_at_fn k;refine hcl.mono ?_;(rintro e w1 ⟨rfl,hb1⟩;obtain⟨hc1,hf1⟩:=Ya hb1;have hz1:=hb1.size;try simp at hz1;try have hy1:=Nl hz1;try have hx1:=Ns hy1;try have hw1:=Ns hx1));go_ret;exact⟨Yt hf2.out.symm,BL⟩
  · have hf2:=Lh (show Yg p b.phis 0=-1 by rw[hf.out,List.drop_eq_nil_of_le ZO];rfl)
    go_wp2;go_ret;exact⟨Yt hf2.out.symm,hb⟩
theorem Ykz{W w:World}{A:Option Addr}{c0:Nat}{b:PBlock}(hr:Rd W.heap.size A b.phis 3 (PhiC W W.heap.size))(hl:Len b.phis.length)(hW:Below W.heap.size W w)(k:FuncId)(c:Value)(p:PPhi→Bool)(eg:∀args w,(callFunc k args).run Tryz.prog w=.ok (.enter k args) w)(hp:Yfh W w k c b.phis p) :
 Calls Tryz.prog 160 #[.slice A b.phis.length c0,.func (.func k) #[] #[c]] w fun e w'=>e=.returned (.bool (b.phis.any p))∧Below w.heap.size w w':=by
 have hi:=Yky (c0:=c0) hr hl hW k c p eg hp;go_enter Tryz.func160,Tryz.ntmps160;go_wp2_with(go_at_call 189;refine hi.mono ?_;rintro e w1 ⟨rfl,hb⟩);go_ret;exact⟨Yam (by simp only[decide_eq_true_eq];exact Ycq p b.phis 0),hb⟩
theorem YkA:∀args w,(callFunc 161 args).run Tryz.prog w=.ok (.enter 161 args) w:=fun _ _=>by kernel_rfl
theorem YkB{W w:World}{fv c pv:Value}{F:PFunc}{x:PPhi}(hF:FnV W W.heap.size fv F)(hW:Below W.heap.size W w)(hc:FnBox w c fv)(hp:PhiV W W.heap.size pv x) :
 Calls Tryz.prog 161 #[pv,c] w fun e w'=>e=.returned (.bool (!YI F x))∧Below w.heap.size w w':=by
 have h1:=fun(w:World) (h:Below W.heap.size W w)=>Ykt hF hp h
 have hWs:=hW.size;obtain⟨b,y0,y1,y2,rfl,rfl,hl,h00,h01,h02⟩:=hc;obtain⟨A1,c1,A2,c2,rfl,-⟩:=hp.open_;go_enter Tryz.func161,Tryz.ntmps161;go_wp2_with(go_at_call 162;refine(h1 _ BL).mono ?_;rintro e w1 ⟨rfl,hb⟩);go_ret;exact⟨rfl,BL⟩
theorem YkC{W w:World}{fv c:Value}{F:PFunc}(hF:FnV W W.heap.size fv F)(hW:Below W.heap.size W w)(hc:FnBox w c fv)(xs:List PPhi):Yfh W w 161 c xs (fun x=>!YI F x):=
 fun _ _ _ hp _ hb=>YkB hF (hW.trans (hb.mono hW.size)) (hc.later hb) hp
def Yfi(W w:World)(k:FuncId)(c:Value)(ps:List PInst)(p:PInst→Bool):Prop:=
 ∀x,x∈ps→∀pv,InstV W W.heap.size pv x→∀w1,Below w.heap.size w w1→Calls Tryz.prog k #[pv,c] w1 fun e w'=>e=.returned (.bool (p x))∧Below w1.heap.size w1 w'
theorem Yar{b:PBlock}{i:Nat}(h:i<b.insts.length):b.inst i∈b.insts:=List.mem_of_getElem? (PBlock.inst_get h)
theorem YcX{b:PBlock}{i:Nat}(h:i<b.insts.length):b.insts.drop i=b.inst i::b.insts.drop (i+1):=by
 rw[List.drop_eq_getElem_cons h];have:=PBlock.inst_get h;rw[List.getElem?_eq_getElem h]at this;injection this with this
 rw[this]
set_option maxHeartbeats 400000 in
theorem YgX{W w:World}{A:Option Addr}{c0:Nat}{b:PBlock}(hr:Rd W.heap.size A b.insts 4 (InstC W W.heap.size))(hl:Len b.insts.length)(hW:Below W.heap.size W w)(k:FuncId)(c:Value)(p:PInst→Bool)(eg:∀args w,(callFunc k args).run Tryz.prog w=.ok (.enter k args) w)(hp:Yfi W w k c b.insts p) :
 Calls Tryz.prog 72 #[.slice A b.insts.length c0,.func (.func k) #[] #[c]] w fun e w'=>e=.returned (.int .i64 (Yg p b.insts 0))∧Below w.heap.size w w':=by
 unfold Len at hl;go_enter Tryz.func72,Tryz.ntmps72;go_wp2
 go_loopw[5,8] (fun _ i wr=>∃n:Nat,i=.int .i64 n∧n≤b.insts.length∧Below w.heap.size w wr∧Hid (Yg p b.insts 0=Yg p (b.insts.drop n) n)) (fun _ i _=>b.insts.length-(intOf i).toNat)
 case atStart=>exact⟨0,rfl,Nz _,Br _ _,by simp[Hid]⟩
 case round=>
  obtain⟨n,rfl,hn,hb,hf⟩:=hrel
  by_cases hlt:n<b.insts.length
  · obtain⟨bb,off,A1,c1,rfl,hbs,x0,x1,x2,x3,l1,k1,r1⟩:=hr.inst (hW.trans (hb.mono hW.size)) hlt
    have hcl:=hp _ (Yar hlt) _ ⟨_,rfl,A1,c1,rfl,l1,k1,r1⟩ wr hb;have hd:=Lh (YcX hlt);clear l1 k1 r1;cases hx:p (b.inst n)
    · rw[hx]at hcl
      have hf2:=Lh (show Yg p b.insts 0=Yg p (b.insts.drop (n+1)) (n+1) by rw[hf.out,hd.out,Yg,if_neg (by rw[hx];decide)]);clear hx;go_wp2_with(go_at_fn k;refine hcl.mono ?_;(rintro e w1 ⟨rfl,hb1⟩;obtain⟨hc1,hf1⟩:=Ya hb1;have hz1:=hb1.size;try simp at hz1;try have hy1:=Nl hz1;try have hx1:=Ns hy1;try have hw1:=Ns hx1));go_roundw
      case rel=>exact⟨n+1,ZN,ZO,BL,hf2⟩
      case measure=>simp[intOf];omega
    · rw[hx]at hcl
      have hf2:=Lh (show Yg p b.insts 0=n by rw[hf.out,hd.out,Yg,if_pos hx]);clear hx;go_wp2_with(go_at_fn k;refine hcl.mono ?_;(rintro e w1 ⟨rfl,hb1⟩;obtain⟨hc1,hf1⟩:=Ya hb1;have hz1:=hb1.size;try simp at hz1;try have hy1:=Nl hz1;try have hx1:=Ns hy1;try have hw1:=Ns hx1));go_ret;exact⟨Yt hf2.out.symm,BL⟩
  · have hf2:=Lh (show Yg p b.insts 0=-1 by rw[hf.out,List.drop_eq_nil_of_le ZO];rfl)
    go_wp2;go_ret;exact⟨Yt hf2.out.symm,hb⟩
theorem YkD{W w:World}{A:Option Addr}{c0:Nat}{b:PBlock}(hr:Rd W.heap.size A b.insts 4 (InstC W W.heap.size))(hl:Len b.insts.length)(hW:Below W.heap.size W w)(k:FuncId)(c:Value)(p:PInst→Bool)(eg:∀args w,(callFunc k args).run Tryz.prog w=.ok (.enter k args) w)(hp:Yfi W w k c b.insts p) :
 Calls Tryz.prog 76 #[.slice A b.insts.length c0,.func (.func k) #[] #[c]] w fun e w'=>e=.returned (.bool (b.insts.any p))∧Below w.heap.size w w':=by
 have hi:=YgX (c0:=c0) hr hl hW k c p eg hp;go_enter Tryz.func76,Tryz.ntmps76;go_wp2_with(go_at_call 72;refine hi.mono ?_;rintro e w1 ⟨rfl,hb⟩);go_ret;exact⟨Yam (by simp only[decide_eq_true_eq];exact Ycq p b.insts 0),hb⟩
theorem YkE:∀args w,(callFunc 163 args).run Tryz.prog w=.ok (.enter 163 args) w:=fun _ _=>by kernel_rfl
theorem YkF{W w:World}{fv c pv:Value}{F:PFunc}{x:PInst}(hF:FnV W W.heap.size fv F)(hW:Below W.heap.size W w)(hc:FnBox w c fv)(hp:InstV W W.heap.size pv x) :
 Calls Tryz.prog 163 #[pv,c] w fun e w'=>e=.returned (.bool (!Ym F x))∧Below w.heap.size w w':=by
 have h1:=fun(w:World) (h:Below W.heap.size W w)=>Ykv hF hp h
 have hWs:=hW.size;obtain⟨b,y0,y1,y2,rfl,rfl,hl,h00,h01,h02⟩:=hc;obtain⟨A1,c1,rfl,-⟩:=hp.open_;go_enter Tryz.func163,Tryz.ntmps163;go_wp2_with(go_at_call 164;refine(h1 _ BL).mono ?_;rintro e w1 ⟨rfl,hb⟩);go_ret;exact⟨rfl,BL⟩
theorem YkG{W w:World}{fv c:Value}{F:PFunc}(hF:FnV W W.heap.size fv F)(hW:Below W.heap.size W w)(hc:FnBox w c fv)(xs:List PInst):Yfi W w 163 c xs (fun x=>!Ym F x):=
 fun _ _ _ hp _ hb=>YkF hF (hW.trans (hb.mono hW.size)) (hc.later hb) hp
end Go.Proofs.YtjlclkcmfokobaaGreatDoor
namespace Go.Proofs.YtjlclkcmfokobaaGreatDoor
open Go.RowKit Go.WideMaps Go.Maps
set_option maxRecDepth 100000
theorem Yfj:Keyed Tryz.prog 9:=string_keyed Tryz.underlying9
theorem YkH(w:World):(zeroValue 3).run Tryz.prog w=.ok (.int .i64 0) w:=by kernel_rfl
def Ydt(s:ByteArray):Lit:=.string s.data.toList
theorem Yfk{s:ByteArray}(h:s.size≤maxLen):keyOf Tryz.prog 9 (.string s)=some (Ydt s):=keyOf_string_mk Tryz.underlying9 h
theorem YkI{s t:ByteArray}(h:Ydt s=Ydt t):s=t:=by
 unfold Ydt at h;injection h with h
 obtain⟨a⟩:=s;obtain⟨b⟩:=t;simp only[ByteArray.mk.injEq];exact Array.toList_inj.1 h
def OwnM(w:World)(b n:Nat)(f:ByteArray→Int):Prop:=
 ∃D:DataW Unit,w.ownsMap Tryz.prog 9 (plainElem Tryz.prog 3) b n D∧∀s:ByteArray,D.atKey (Ydt s) (.lit (.int .i64 0))=.lit (.int .i64 (f s))
theorem OwnM.made(w:World):OwnM (w.alloc (.map #[] 0)) w.heap.size 0 (fun _=>0):=⟨.map [],World.ownsMap_made _ _ _ _,fun _=>rfl⟩
theorem OwnM.lt{w:World}{b n:Nat}{f:ByteArray→Int}(h:OwnM w b n f):b<w.heap.size:=by
 obtain⟨D,h,_⟩:=h;exact h.lt
theorem OwnM.below{w w':World}{b n:Nat}{f:ByteArray→Int}(h:OwnM w b n f)(hb:Below w.heap.size w w'):OwnM w' b n f:=by
 obtain⟨D,h1,h2⟩:=h;exact⟨D,h1.kept (row:=none) ⟨hb.os,hb.tape,hb.output,hb.size,fun k hk _=>hb.block k hk⟩ ZS,h2⟩
theorem OwnM.look{w:World}{b n:Nat}{f:ByteArray→Int}(h:OwnM w b n f){s:ByteArray}(hs:s.size≤maxLen) :
 (Instr.lookup 183 (.map (some b)) (.string s) false).run Tryz.prog w=.ok (.int .i64 (f s)) w:=by
 obtain⟨D,h1,h2⟩:=h;obtain⟨c,hrun,hat,_⟩:=h1.lookup_int Yfj Tryz.underlying183 Tryz.underlying3 (YkH _) (Yfk hs);rw[h2 s]at hat;have hc:f s=c:=by injection hat with hat;injection hat
 rw[hc];exact hrun
theorem YkJ(w:World){ops:Array Oper}{rest:List Oper}{o:Oper}{a:Act}{Q:Exit→Act→World→Prop}
 (hg:o.guard=none) (m x v:Operand) (hop:o.op=Op.mapUpdate 183 m x v) {b n:Nat} {f:ByteArray→Int} (hm:a.eval m=.map (some b)) (hown:OwnM w b n f) (hn:n<maxLen)
 (s:ByteArray) (hs:s.size≤maxLen) (hx:a.eval x=.string s) (c:Int) (hv:a.eval v=.int .i64 c) (hc:(Lit.int .i64 c).wf=true)
 (hK:∀w',OwnM w' b (n+1) (fun t=>if t=s then c else f t)→w.grownBy w' (some b)→wpList Tryz.prog ops Q rest (a.put o.dst undef) w'):wpList Tryz.prog ops Q (o::rest) a w:=by
 obtain⟨D,h1,h2⟩:=hown;refine wpList_mapUpdate_own w hg m x v 183 hop 9 3 Yfj Tryz.underlying183 _ b n D hm h1 hn _ _ _ hx hv (Yfk hs) _ [] (plainElem_int Tryz.underlying3 hc) ?_;intro w' h3 hg';refine hK w' ⟨_,h3,fun t=>?_⟩ hg'
 by_cases ht:t=s
 · subst ht
   show _=DataW.lit (.int .i64 (if t=t then c else f t));rw[if_pos rfl];exact atKey_put_same h1.isMap (Yfj.key (Yfk hs)) _ _
 · show _=DataW.lit (.int .i64 (if t=s then c else f t))
   rw[if_neg ht,atKey_put_other (fun e=>ht (YkI e)),h2 t]
def Yfl(w:World)(b o:Nat)(s:ByteArray):Prop:=s.size≤maxLen∧w.cell? ⟨b,o,none⟩=some (.string s)
def sth(xs:List ByteArray)(i:Nat):ByteArray:=xs.getD i ByteArray.empty
theorem Yfm{xs:List ByteArray}{i:Nat}(h:i<xs.length):xs[i]?=some (sth xs i):=by simp[sth,h]
theorem YkK{xs:List ByteArray}{i:Nat}(h:i<xs.length):xs.drop i=sth xs i::xs.drop (i+1):=by
 rw[List.drop_eq_getElem_cons h];have:=Yfm h;rw[List.getElem?_eq_getElem h]at this;injection this with this
 rw[this]
theorem YkL{xs:List ByteArray}{i:Nat}(h:i<xs.length):xs.take (i+1)=xs.take i++[sth xs i]:=by
 have:=Yfm h;rw[List.take_add_one,this];rfl
theorem Rd.str{W w:World}{A:Option Addr}{xs:List ByteArray}(h:Rd W.heap.size A xs 1 (Yfl W))(hw:Below W.heap.size W w){i:Nat}(hi:i<xs.length) :
 ∃b off,A=some ⟨b,off,none⟩∧b<w.heap.size∧(sth xs i).size≤maxLen∧w.cell? ⟨b,off+i,none⟩=some (.string (sth xs i)):=by
 obtain⟨b,off,ha,hb,hr⟩:=h i _ (Yfm hi);refine⟨b,off,ha,by have:=hw.size;omega,hr.1,?_⟩;rw[hw.cell (p:=⟨b,off+i,none⟩) hb];simpa using hr.2
def YR(seen:List ByteArray)(s:ByteArray):Bool:=seen.any fun x=>decide (x=s)
def YZ:List ByteArray→List ByteArray→Bool
 |_,[]=>true
 |seen,s::r=>YaH s&&!(YR seen s)&&YZ (seen++[s]) r
def cnt(seen:List ByteArray)(t:ByteArray):Int:=if YR seen t then 1 else 0
theorem YkM{seen:List ByteArray}{s:ByteArray}(h:YR seen s=false):(fun t=>if t=s then cnt seen s+1 else cnt seen t)=cnt (seen++[s]):=by
 funext t;unfold cnt
 by_cases ht:t=s
 · subst ht;rw[if_pos rfl,h];simp[YR]
 · rw[if_neg ht,show YR (seen++[s]) t=YR seen t by unfold YR;rw[List.any_append];simp[show ¬s=t from fun e=>ht e.symm]]
set_option maxHeartbeats 1000000 in
theorem YgY{W w:World}{A:Option Addr}{c0:Nat}{xs:List ByteArray}(hU:Uni W)(hr:Rd W.heap.size A xs 1 (Yfl W))(hl:xs.length≤1048576)(hW:Below W.heap.size W w) :
 Calls Tryz.prog 188 #[.slice A xs.length c0] w fun e w'=>e=.returned (.bool (YZ [] xs))∧Below w.heap.size w w':=by
 have hmm:=@run_makeMap Tryz.prog;go_enter Tryz.func188,Tryz.ntmps188;go_wp2
 go_loopw[9] (fun i wr=>∃n:Nat,i=.int .i64 n∧n≤xs.length∧Below w.heap.size w wr∧OwnM wr w.heap.size n (cnt (xs.take n))∧Hid (YZ [] xs=YZ (xs.take n) (xs.drop n))) (fun i _=>xs.length-(intOf i).toNat)
 case atStart=>exact⟨0,rfl,Nz _,BL,by rw[show cnt (xs.take 0)=fun _=>0 from by funext t;rfl];exact OwnM.made w,by simp[Hid]⟩
 case round=>
  obtain⟨n,rfl,hn,hb,hm,hf⟩:=hrel
  by_cases hlt:n<xs.length
  · have hWr:=hW.trans (hb.mono hW.size)
    obtain⟨b,off,rfl,hbs,hsz,hc⟩:=hr.str hWr hlt;have hnm:=Yj0 hU hWr (sth xs n) hsz;have hd:=Lh (YkK hlt);have htk:=Lh (YkL hlt);have hml:=hm.lt;cases hx:YaH (sth xs n)
    · have hf2:=Lh (show YZ [] xs=false by rw[hf.out,hd.out,YZ,hx];rfl)
      rw[hx]at hnm;clear hx;go_wp2_with(go_at_call 203;refine hnm.mono ?_;(rintro e w1 ⟨rfl,hb1⟩;obtain⟨hc1,hf1⟩:=Ya hb1;have hz1:=hb1.size;try simp at hz1;try have hy1:=Nl hz1;try have hx1:=Ns hy1;try have hw1:=Ns hx1));go_ret;exact⟨Yb hf2.out.symm,BL⟩
    · rw[hx]at hnm
      cases hs:YR (xs.take n) (sth xs n)
      rotate_left
      · have hf2:=Lh (show YZ [] xs=false by rw[hf.out,hd.out,YZ,hs];simp)
        have hk:cnt (xs.take n) (sth xs n)=1:=by rw[cnt,if_pos hs]
        clear hx hs;go_wp2_with(go_at_call 203;refine hnm.mono ?_;(rintro e w1 ⟨rfl,hb1⟩;obtain⟨hc1,hf1⟩:=Ya hb1;have hz1:=hb1.size;try simp at hz1;try have hy1:=Nl hz1;try have hx1:=Ns hy1;try have hw1:=Ns hx1);have hlk:=(hm.below hb1).look hsz;rw[hk]at hlk);go_ret;exact⟨Yb hf2.out.symm,BL⟩
      · have hf2:=Lh (show YZ [] xs=YZ (xs.take (n+1)) (xs.drop (n+1)) by rw[hf.out,hd.out,YZ,hx,hs,htk.out];rfl)
        have hk:cnt (xs.take n) (sth xs n)=0:=by rw[cnt,hs];rfl
        have HS:=Lh (YkM hs);have HK:=Lh hk;clear hx hs;go_wp2_with(first|(go_at_call 203;refine hnm.mono ?_;(rintro e w1 ⟨rfl,hb1⟩;obtain⟨hc1,hf1⟩:=Ya hb1;have hz1:=hb1.size;try simp at hz1;try have hy1:=Nl hz1;try have hx1:=Ns hy1;try have hw1:=Ns hx1);have hm1:=hm.below hb1;have hlk:=hm1.look hsz;rw[hk]at hlk;clear hk)|(at_mapUpdate;refine YkJ _ rfl _ _ _ rfl rfl hm1 (by unfold maxLen;omega) (sth xs n) hsz rfl _ rfl ZD ?_;intro w2 hm2 hg2));go_roundw
        case rel=>exact⟨n+1,ZN,ZO,(hb.trans (hb1.mono hb.size)).grown hg2 (by have:=hb1.size;omega) (fun k hk=>by cases hk;exact Nr _),by rw[htk.out,← HS.out,HK.out];exact hm2,hf2⟩
        case measure=>simp[intOf];omega
  · have hf2:=Lh (show YZ [] xs=true by rw[hf.out,List.drop_eq_nil_of_le ZO];rfl)
    go_wp2;go_ret;exact⟨Yb hf2.out.symm,hb⟩
end Go.Proofs.YtjlclkcmfokobaaGreatDoor
namespace Go.Proofs.YtjlclkcmfokobaaGreatDoor
open Go.RowKit
set_option maxRecDepth 100000
def YU(F:PFunc):Prop:=F.vars.length≤1048575∧F.blocks.length≤1048575∧∀i,i<F.blocks.length→(F.blk i).phis.length≤1048576∧(F.blk i).insts.length≤1048576
def YaY(t:Int):Bool:=decide (t=0)||decide (t=1)||decide (t=2)
theorem YkN(t:Int):(Ydq t).toList.isEmpty=!YaY t:=by
 unfold Ydq YaY
 by_cases h0:t=0
 · subst h0;decide +kernel
 · by_cases h1:t=1
   · subst h1;decide +kernel
   · by_cases h2:t=2
     · subst h2;decide +kernel
     · simp only[h0,h1,h2];decide +kernel
theorem Tryz.info9:(Tryz.prog.info? 9).map (fun i=>(i.zero,i.size,i.bytes))=some (some (.string ByteArray.empty),1,16):=by kernel_rfl
def vnames(F:PFunc):List ByteArray:=F.vars.map (·.name)
def bnames(F:PFunc):List ByteArray:=F.blocks.map (·.name)
theorem Yeb{F:PFunc}{i:Nat}(h:i<F.vars.length):F.vars.drop i=F.var i::F.vars.drop (i+1):=by
 rw[List.drop_eq_getElem_cons h];have:=PFunc.var_get h;rw[List.getElem?_eq_getElem h]at this;injection this with this
 rw[this]
theorem Yct{F:PFunc}{i:Nat}(h:i<F.blocks.length):F.blocks.drop i=F.blk i::F.blocks.drop (i+1):=by
 rw[List.drop_eq_getElem_cons h];have:=PFunc.blk_get h;rw[List.getElem?_eq_getElem h]at this;injection this with this
 rw[this]
theorem Yfn{F:PFunc}{i:Nat}(h:i<F.vars.length):(vnames F).take (i+1)=(vnames F).take i++[(F.var i).name]:=by
 rw[List.take_add_one];simp[vnames,PFunc.var_get h]
theorem Yfo{F:PFunc}{i:Nat}(h:i<F.blocks.length):(bnames F).take (i+1)=(bnames F).take i++[(F.blk i).name]:=by
 rw[List.take_add_one];simp[bnames,PFunc.blk_get h]
def Yax:List Int→Nat→Bool
 |[],_=>true
 |p::r,i=>decide (p=i)&&Yax r (i+1)
def Yag(F:PFunc):Bool:=F.vars.all (fun v=>YaY v.ty)&&Yax F.params 0&&decide (F.vars.length≤512)&&decide (F.params.length≤8)&&decide (F.params.length≤F.vars.length)&&decide (1≤F.blocks.length)&&decide (F.blocks.length≤64)&&
 YZ [] (vnames F)&&YZ [] (bnames F)
theorem Rd.of_own_str{w:World}{base:Nat}{e:TypeId}{c n:Nat}{A:Option Addr}{xs:List ByteArray}(hsz:∀s∈xs,s.size≤maxLen)(h:w.ownsRow base e 1 (.slice A n c) n (xs.map Value.string)):n=xs.length∧Rd w.heap.size A xs 1 (Yfl w):=by
 obtain⟨hl,h⟩:=h;have hn:n=xs.length:=by simpa using hl.symm
 rcases h with⟨hv,hn0⟩|⟨g,cap,cur,hv,hb,hg,hnc,hcm,hs,hcur⟩
 · injection hv with h1 h2 h3
   subst h1 h2 h3;refine⟨hn,fun i x hx=>?_⟩;have:xs=[]:=List.eq_nil_of_length_eq_zero hn.symm;subst this;simp at hx
 · injection hv with h1 h2 h3
   subst h1 h3;refine⟨hn,fun i x hx=>⟨g,0,rfl,(Array.getElem?_eq_some_iff.1 hg).1,hsz x (List.mem_of_getElem? hx),?_⟩⟩;rw[cell_of_row w g _ cur e (0,0) hg];have:(cur.toList.take (n*1))[i]?=some (.string x):=by rw[hcur];simp[hx]
   rw[List.getElem?_take]at this;split at this
   · simpa using this
   · cases this
theorem Yn{w w':World}{x y z:Value}{t:TypeId}(hb:Below (w.heap.size+1) (w.alloc (.cells #[x,y,z] t)) w') :
 w.heap.size<w'.heap.size∧w'.cell? ⟨w.heap.size,0,none⟩=some x∧w'.cell? ⟨w.heap.size,1,none⟩=some y∧w'.cell? ⟨w.heap.size,2,none⟩=some z:=by
 have hg:=heap_alloc_new w (.cells #[x,y,z] t);have hs:=hb.size;simp at hs;exact⟨hs,(hb.cell (p:=⟨w.heap.size,0,none⟩) (Nat.lt_succ_self _)).trans (cell_of_row _ _ 0 _ _ _ hg),(hb.cell (p:=⟨w.heap.size,1,none⟩) (Nat.lt_succ_self _)).trans (cell_of_row _ _ 1 _ _ _ hg),(hb.cell (p:=⟨w.heap.size,2,none⟩) (Nat.lt_succ_self _)).trans (cell_of_row _ _ 2 _ _ _ hg)⟩
set_option maxHeartbeats 4000000 in
theorem YkO{W w:World}{fv:Value}{F:PFunc}(hU:Uni W)(hF:FnV W W.heap.size fv F)(hW:Below W.heap.size W w)(hS:YU F) :
 Calls Tryz.prog 159 #[fv] w fun e w'=>e=.returned (.bool (Yag F))∧Below w.heap.size w w':=by
 obtain⟨A0,c0,A1,c1,A2,c2,rfl,l0,l1,l2,-,-,-,r0,r1,r2⟩:=id hF.open_;obtain⟨s0,s1,-⟩:=id hS;unfold Len at *;have hWs:=hW.size;have hvz:∀s∈vnames F,s.size≤maxLen:=fun s hs=>by
  obtain⟨v,hv,rfl⟩:=List.mem_map.1 hs;obtain⟨i,hi⟩:=List.mem_iff_getElem?.1 hv;obtain⟨b,off,_,_,hr⟩:=r0 i v hi;exact hr.1
 have hbz:∀s∈bnames F,s.size≤maxLen:=fun s hs=>by
  obtain⟨v,hv,rfl⟩:=List.mem_map.1 hs;obtain⟨i,hi⟩:=List.mem_iff_getElem?.1 hv;obtain⟨b,off,_,_,hr⟩:=r2 i v hi;exact hr.1
 have hb0:=(Br w.heap.size w).alloc (Nr _) (.cells #[.slice A0 F.vars.length c0,.slice A1 F.params.length c1,.slice A2 F.blocks.length c2] 26);go_enter Tryz.func159,Tryz.ntmps159;go_wp2
 go_loopw[3,14] (fun v i wr=>∃n:Nat,i=.int .i64 n∧n≤F.vars.length∧Below (w.heap.size+1) (w.alloc (.cells #[.slice A0 F.vars.length c0,.slice A1 F.params.length c1,.slice A2 F.blocks.length c2] 26)) wr∧
  wr.ownsRow (w.heap.size+1) 9 1 v n (((vnames F).take n).map Value.string)∧Hid (F.vars.all (fun v=>YaY v.ty)=(F.vars.drop n).all (fun v=>YaY v.ty))) (fun _ i _=>F.vars.length-(intOf i).toNat)
 case atStart=>exact⟨0,rfl,Nz _,Br _ _,⟨rfl,.inl ⟨rfl,rfl⟩⟩,by simp[Hid]⟩
 case round=>
  obtain⟨n,rfl,hn,hb,hown,hf⟩:=hrel;have hbs:=hb.size;simp at hbs;have hWr:Below W.heap.size W wr:=(hW.alloc hWs _).trans (hb.mono ZO)
  by_cases hlt:n<F.vars.length
  · obtain⟨b,off,rfl,hbb,hnz,hc0,hc1⟩:=r0.var hWr hlt
    have hd:=Lh (Yeb hlt);have htk:=Lh (Yfn hlt);have hte:=YkN (F.var n).ty;cases ho:YaY (F.var n).ty
    · have HF:=Lh (show Yag F=false by rw[Yag,hf.out,hd.out,List.all_cons,ho];rfl)
      rw[ho]at hte;clear ho
      go_wp2_with(first
       |(at_builtin;refine Ydp _ rfl _ _ 106 rfl (w.heap.size+1) 9 16 Tryz.underlying106 Tryz.info9 rfl _ _ _ rfl (hown.alloc _) _ ZS _ rfl rfl ZO ZD ZX ?_;intro v' w3 hown2 hg;have hgs:=hg.size;simp at hgs;have hgl:=Nl hgs;have hgm:=Ns hgl;have hg1:=YgL hown hg ⟨wr.heap.size,1,none⟩ (.inr (Nr _)) ZX;have hB3:=Ybl (hown.alloc _) hg (hb.alloc ZO _) (Nr _) ZX)
       |(go_at_call 187;refine(YgO _).mono ?_;rintro e w2 ⟨rfl,rfl⟩))
      go_ret;exact⟨Yb HF.out.symm,hb0.trans (hB3.mono (Nat.le_succ _))⟩
    · have HF:=Lh (show(F.vars.all fun v=>YaY v.ty)=((F.vars.drop (n+1)).all fun v=>YaY v.ty) by rw[hf.out,hd.out,List.all_cons,ho];rfl)
      rw[ho]at hte;clear ho
      go_wp2_with(first
       |(at_builtin;refine Ydp _ rfl _ _ 106 rfl (w.heap.size+1) 9 16 Tryz.underlying106 Tryz.info9 rfl _ _ _ rfl (hown.alloc _) _ ZS _ rfl rfl ZO ZD ZX ?_;intro v' w3 hown2 hg;have hgs:=hg.size;simp at hgs;have hgl:=Nl hgs;have hgm:=Ns hgl;have hg1:=YgL hown hg ⟨wr.heap.size,1,none⟩ (.inr (Nr _)) ZX;have hB3:=Ybl (hown.alloc _) hg (hb.alloc ZO _) (Nr _) ZX)
       |(go_at_call 187;refine(YgO _).mono ?_;rintro e w2 ⟨rfl,rfl⟩))
      go_roundw
      case rel=>exact⟨n+1,ZN,ZO,hB3,by rw[htk.out];simpa using hown2,HF⟩
      case measure=>simp[intOf];omega
  · have hnl:n=F.vars.length:=by omega
    have hf1:=Lh (show(F.vars.all fun v=>YaY v.ty)=true by rw[hf.out,hnl,List.drop_eq_nil_of_le (Nr _)];rfl);rw[hnl,show(vnames F).take F.vars.length=vnames F from List.take_of_length_le (by simp[vnames])]at hown;clear hf hn hlt;subst hnl;obtain⟨hq,-,hq1,hq2⟩:=Yn hb;go_wp2;obtain⟨wo,rfl⟩:∃wo:World,wo=wr:=⟨_,rfl⟩
    go_loopw[4,31] (fun v i wr=>∃n:Nat,i=.int .i64 n∧n≤F.blocks.length∧Below wo.heap.size wo wr∧wr.ownsRow wo.heap.size 9 1 v n (((bnames F).take n).map Value.string)) (fun _ i _=>F.blocks.length-(intOf i).toNat)
    case atStart=>exact⟨0,rfl,Nz _,Br _ _,⟨rfl,.inl ⟨rfl,rfl⟩⟩⟩
    case round=>
     obtain⟨n,rfl,hn,hb2,hown2⟩:=hrel;have hbs2:=hb2.size
     by_cases hlt:n<F.blocks.length
     · have hWr2:Below W.heap.size W wr:=hWr.trans (hb2.mono hWr.size)
       obtain⟨b,off,A3,c3,A4,c4,rfl,hbb,hnz,hy0,hy1,hy2,hy3,hy4,hy5,hy6,-⟩:=r2.blk hWr2 hlt;have htk:=Lh (Yfo hlt);go_wp2_with(at_builtin;refine Ydp _ rfl _ _ 106 rfl wo.heap.size 9 16 Tryz.underlying106 Tryz.info9 rfl _ _ _ rfl (hown2.alloc _) _ ZS _ rfl rfl ZO ZD ZX ?_;intro v' w3 hown3 hg;have hB3:=Ybl (hown2.alloc _) hg (hb2.alloc ZO _) (Nr _) ZX);go_roundw
       case rel=>exact⟨n+1,ZN,ZO,hB3,by rw[htk.out];simpa using hown3⟩
       case measure=>simp[intOf];omega
     · have hnl:n=F.blocks.length:=by omega
       rw[hnl,show(bnames F).take F.blocks.length=bnames F from List.take_of_length_le (by simp[bnames])]at hown2;clear hn hlt;subst hnl;have hown1:=Yu hown hb2;have hp2:wr.cell? ⟨w.heap.size,1,none⟩=some (.slice A1 F.params.length c1):=(hb2.cell (p:=⟨w.heap.size,1,none⟩) hq).trans hq1;have hp1:=Nt hq hb2.size;have hB:=(hb0.trans (hb.mono (Nat.le_succ _))).trans (hb2.mono (Nat.le_of_lt hq));have hWr2:Below W.heap.size W wr:=hWr.trans (hb2.mono hWr.size);clear hown hq hq1 hq2 hb;obtain⟨A5,c5,rfl⟩:=Yp hown1;obtain⟨A6,c6,rfl⟩:=Yp hown2;obtain⟨-,R5⟩:=Rd.of_own_str hvz hown1;obtain⟨-,R6⟩:=Rd.of_own_str hbz hown2;go_wp2
       go_loop[9,10,44] (fun _ _ i=>∃n:Nat,i=.int .i64 n∧n≤F.params.length∧Hid (Yax F.params 0=Yax (F.params.drop n) n)) (fun _ _ i=>F.params.length-(intOf i).toNat)
       case atStart=>exact⟨0,rfl,Nz _,by simp[Hid]⟩
       case round=>
        obtain⟨n,rfl,hn,hf⟩:=hrel
        by_cases hlt:n<F.params.length
        · obtain⟨b,off,rfl,hbb,hy⟩:=r1.int hWr2 hlt
          have hd:=Lh (YaI hlt)
          by_cases hp:ith F.params n=n
          · have HF:=Lh (show Yax F.params 0=Yax (F.params.drop (n+1)) (n+1) by rw[hf.out,hd.out,Yax,hp];simp)
            have hp':(ith F.params n !=(n:Int))=false:=by simpa using hp
            clear hp;go_wp2
            go_round
            case rel=>exact⟨n+1,ZN,ZO,HF⟩
            case measure=>simp[intOf];omega
          · have HF:=Lh (show Yag F=false by rw[Yag,hf.out,hd.out,Yax];simp[hp])
            have hp':(ith F.params n !=(n:Int))=true:=by simpa using hp
            clear hp;go_wp2;go_ret;exact⟨Yb HF.out.symm,hB⟩
        · have hf3:=Lh (show Yax F.params 0=true by rw[hf.out,List.drop_eq_nil_of_le ZO];rfl)
          clear hf hn;have HN:=Lh (show Yag F=(decide (F.vars.length≤512)&&decide (F.params.length≤8)&&decide (F.params.length≤F.vars.length)&&decide (1≤F.blocks.length)&&decide (F.blocks.length≤64)&&YZ [] (vnames F)&&YZ [] (bnames F)) by rw[Yag,hf1.out,hf3.out];rfl);clear hf1 hf3;have hu1:=fun(w:World) (h:Below wr.heap.size wr w)=>YgY (c0:=c5) (hU.below hWr2) R5 (by simp[vnames];omega) h
          have hu2:=fun(w:World) (h:Below wr.heap.size wr w)=>YgY (c0:=c6) (hU.below hWr2) R6 (by simp[bnames];omega) h
          rw[show(vnames F).length=F.vars.length by simp[vnames]]at hu1;rw[show(bnames F).length=F.blocks.length by simp[bnames]]at hu2
          by_cases t1:F.vars.length≤512
          case neg=>
           have HF:=Lh (show Yag F=false by rw[HN.out];simp[t1]);go_wp2;go_ret;exact⟨Yb HF.out.symm,hB⟩
          by_cases t2:F.params.length≤8∧F.params.length≤F.vars.length
          case neg=>
           have HF:=Lh (show Yag F=false by rw[HN.out];simp;omega);go_wp2;go_ret;exact⟨Yb HF.out.symm,hB⟩
          obtain⟨t2,t3⟩:=t2
          by_cases t4:1≤F.blocks.length
          case neg=>
           have HF:=Lh (show Yag F=false by rw[HN.out];simp[t4]);go_wp2;go_ret;exact⟨Yb HF.out.symm,hB⟩
          by_cases t5:F.blocks.length≤64
          case neg=>
           have HF:=Lh (show Yag F=false by rw[HN.out];simp[t5]);go_wp2;go_ret;exact⟨Yb HF.out.symm,hB⟩
          have HM:=Lh (show Yag F=(YZ [] (vnames F)&&YZ [] (bnames F)) by rw[HN.out];simp[t1,t2,t3,t4,t5]);cases hx:YZ [] (vnames F)
          · rw[hx]at HM hu1
            clear hx;go_wp2_with(go_at_call 188;refine(hu1 _ (Br _ _)).mono ?_;(rintro e w1 ⟨rfl,hb1⟩;obtain⟨hc1,hf1⟩:=Ya hb1;have hz1:=hb1.size;try simp at hz1;try have hy1:=Nl hz1;try have hx1:=Ns hy1;try have hw1:=Ns hx1));go_ret;exact⟨Yb HM.out.symm,hB.trans (hb1.mono hB.size)⟩
          · rw[hx]at HM hu1
            clear hx;go_wp2_with(go_at_call 188;first|(refine(hu2 _ hb1).mono ?_;(rintro e w2 ⟨rfl,hb2⟩;obtain⟨hc2,hf2⟩:=Ya hb2;have hz2:=hb2.size;try simp at hz2;try have hy2:=Nl hz2;try have hx2:=Ns hy2;try have hw2:=Ns hx2))|(refine(hu1 _ (Br _ _)).mono ?_;(rintro e w1 ⟨rfl,hb1⟩;obtain⟨hc1,hf1⟩:=Ya hb1;have hz1:=hb1.size;try simp at hz1;try have hy1:=Nl hz1;try have hx1:=Ns hy1;try have hw1:=Ns hx1)));go_ret;exact⟨Yb HM.out.symm,(hB.trans (hb1.mono hB.size)).trans (hb2.mono ZO)⟩
end Go.Proofs.YtjlclkcmfokobaaGreatDoor
