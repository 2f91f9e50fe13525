/- The walks of package print, on: ends, and lists of phis and instructions. slices.IndexFunc and slices.ContainsFunc over phis and over instructions, at print's own predicates. (Both halves printed from one text.) A map from texts to numbers that the call makes: a function of texts. And print.unlike. The walks of print.names and print.Shaped. -/
import Derived.Test.YtlhhfcleioikoaaGreatDoorPrint
import Derived.Maps.OwnOps
import Derived.Maps.OwnSet
import Derived.Maps.Views
namespace Go.Proofs.YtlhhfcleioikoaaGreatDoor
open Go.RowKit
set_option maxRecDepth 100000
theorem arr2_guard:Program.eqGuardType Tryz.prog (Program.depth Tryz.prog) 38=false:=by kernel_rfl
theorem arr2_eqIn(d:Nat)(a b c e:Int)(w:World):(Op.equalIn (d+2) 38 (.agg #[.int .i64 a,.int .i64 b]) (.agg #[.int .i64 c,.int .i64 e])).run Tryz.prog w=.ok (a==c&&b==e) w:=by
 rw[Op.equalIn];simp only[Sem.run_bind,run_underlying Tryz.underlying38,Result.andThen];have hs:(sizeOf 3).run Tryz.prog w=.ok 1 w:=by kernel_rfl
 simp only[hs];have p0:∀x y:Int,(part 3 #[.int .i64 x,.int .i64 y] 0).run Tryz.prog w=.ok (.int .i64 x) w:=fun x y=>by kernel_rfl
 have p1:∀x y:Int,(part 3 #[.int .i64 x,.int .i64 y] 1).run Tryz.prog w=.ok (.int .i64 y) w:=fun x y=>by kernel_rfl
 have q:∀x y:Int,(Op.equalIn (d+1) 3 (.int .i64 x) (.int .i64 y)).run Tryz.prog w=.ok (x==y) w:=fun x y=>run_equalIn_int w d _ _ _ x y Tryz.underlying3
 by_cases h1:a=c
 · subst h1
   by_cases h2:b=e
   · subst h2;simp[List.range'_succ,Sem.run_bind,Result.andThen,p0,p1,q]
   · simp[List.range'_succ,Sem.run_bind,Result.andThen,p0,p1,q,h2]
 · simp[List.range'_succ,Sem.run_bind,Result.andThen,p0,q,h1]
theorem arr2_eq(a b c e:Int)(w:World):(binOp .eql 38 (.agg #[.int .i64 a,.int .i64 b]) (.agg #[.int .i64 c,.int .i64 e])).run Tryz.prog w=.ok (.bool (a==c&&b==e)) w:=by
 rw[run_eql_struct,arr2_eqIn 9998];rfl
def termV(t:PTerm):Value:=.agg #[.int .i64 t.kind,.int .i64 t.var,.int .i64 t.t0,.int .i64 t.t1]
def termB(F:PFunc)(t:PTerm):Bool:=
 if t.kind=0 then inB t.t0 F.blocks.length&&decide (t.t1=0)&&decide (t.var=0)
 else if t.kind=1 then inB t.var F.vars.length&&inB t.t0 F.blocks.length&&inB t.t1 F.blocks.length
 else if t.kind=2 then inB t.var F.vars.length&&(decide (t.t0=0)&&decide (t.t1=0))
 else false
set_option maxHeartbeats 2000000 in
theorem term_calls{W w:World}{fv:Value}{F:PFunc}(t:PTerm)(hF:FnV W W.heap.size fv F) :
 Calls Tryz.prog 143 #[fv,.agg #[.int .i64 t.kind,.int .i64 t.var,.int .i64 t.t0,.int .i64 t.t1]] w fun e w'=>e=.returned (.bool (termB F t))∧Below w.heap.size w w':=by
 obtain⟨A0,c0,A1,c1,A2,c2,rfl,-⟩:=id hF.open_;obtain⟨kind,var,t0,t1⟩:=t;have a0:=fun w=>at_calls (w:=w) hF t0
 have a1:=fun w=>at_calls (w:=w) hF t1
 have v0:=fun w=>has_calls (w:=w) hF var
 by_cases k0:kind=0
 · subst k0
   have HF:=Lib.hid (show termB F ⟨0,var,t0,t1⟩=(inB t0 F.blocks.length&&decide (t1=0)&&decide (var=0)) by simp[termB]);cases b0:inB t0 F.blocks.length
   · rw[b0]at HF a0
     clear b0;go_enter Tryz.func143,Tryz.ntmps143;go_wp2_with(go_at_call 171;refine(a0 _).mono ?_;(rintro e w1 ⟨rfl,hb1⟩;obtain⟨hc1,hf1⟩:=bcell hb1;have hz1:=hb1.size;try simp at hz1;try have hy1:=Nat.lt_of_succ_le hz1;try have hx1:=Nat.lt_of_succ_lt hy1;try have hw1:=Nat.lt_of_succ_lt hx1));go_ret;exact⟨ret_bool (by rw[HF.out];simp),BL⟩
   · rw[b0]at HF a0
     clear b0
     by_cases h1:t1=0
     all_goals
      go_enter Tryz.func143,Tryz.ntmps143;go_wp2_with(go_at_call 171;refine(a0 _).mono ?_;(rintro e w1 ⟨rfl,hb1⟩;obtain⟨hc1,hf1⟩:=bcell hb1;have hz1:=hb1.size;try simp at hz1;try have hy1:=Nat.lt_of_succ_le hz1;try have hx1:=Nat.lt_of_succ_lt hy1;try have hw1:=Nat.lt_of_succ_lt hx1));go_ret;exact⟨ret_bool (by rw[HF.out,Bool.eq_iff_iff];simp[h1]),BL⟩
 by_cases k1:kind=1
 · subst k1
   have HF:=Lib.hid (show termB F ⟨1,var,t0,t1⟩=(inB var F.vars.length&&inB t0 F.blocks.length&&inB t1 F.blocks.length) by simp[termB]);clear k0;cases b0:inB var F.vars.length
   · rw[b0]at HF v0
     clear b0;go_enter Tryz.func143,Tryz.ntmps143;go_wp2_with(go_at_call 168;refine(v0 _).mono ?_;(rintro e w1 ⟨rfl,hb1⟩;obtain⟨hc1,hf1⟩:=bcell hb1;have hz1:=hb1.size;try simp at hz1;try have hy1:=Nat.lt_of_succ_le hz1;try have hx1:=Nat.lt_of_succ_lt hy1;try have hw1:=Nat.lt_of_succ_lt hx1));go_ret;exact⟨ret_bool (by rw[HF.out];simp),BL⟩
   rw[b0]at HF v0;clear b0;cases b1:inB t0 F.blocks.length
   · rw[b1]at HF a0
     clear b1;go_enter Tryz.func143,Tryz.ntmps143;go_wp2_with(first|(go_at_call 168;refine(v0 _).mono ?_;(rintro e w1 ⟨rfl,hb1⟩;obtain⟨hc1,hf1⟩:=bcell hb1;have hz1:=hb1.size;try simp at hz1;try have hy1:=Nat.lt_of_succ_le hz1;try have hx1:=Nat.lt_of_succ_lt hy1;try have hw1:=Nat.lt_of_succ_lt hx1))|(go_at_call 171;refine(a0 _).mono ?_;(rintro e w2 ⟨rfl,hb2⟩;obtain⟨hc2,hf2⟩:=bcell hb2;have hz2:=hb2.size;try simp at hz2;try have hy2:=Nat.lt_of_succ_le hz2;try have hx2:=Nat.lt_of_succ_lt hy2;try have hw2:=Nat.lt_of_succ_lt hx2)));go_ret;exact⟨ret_bool (by rw[HF.out];simp),BL⟩
   rw[b1]at HF a0;clear b1;go_enter Tryz.func143,Tryz.ntmps143;go_wp2_with(first|(go_at_call 168;refine(v0 _).mono ?_;(rintro e w1 ⟨rfl,hb1⟩;obtain⟨hc1,hf1⟩:=bcell hb1;have hz1:=hb1.size;try simp at hz1;try have hy1:=Nat.lt_of_succ_le hz1;try have hx1:=Nat.lt_of_succ_lt hy1;try have hw1:=Nat.lt_of_succ_lt hx1))|(go_at_call 171;with_reducible refine(a0 _).mono ?_;(rintro e w2 ⟨rfl,hb2⟩;obtain⟨hc2,hf2⟩:=bcell hb2;have hz2:=hb2.size;try simp at hz2;try have hy2:=Nat.lt_of_succ_le hz2;try have hx2:=Nat.lt_of_succ_lt hy2;try have hw2:=Nat.lt_of_succ_lt hx2)));go_wp2_with(go_at_call 171;refine(a1 _).mono ?_;(rintro e w3 ⟨rfl,hb3⟩;obtain⟨hc3,hf3⟩:=bcell hb3;have hz3:=hb3.size;try simp at hz3;try have hy3:=Nat.lt_of_succ_le hz3;try have hx3:=Nat.lt_of_succ_lt hy3;try have hw3:=Nat.lt_of_succ_lt hx3));go_ret;exact⟨ret_bool (by rw[HF.out];simp),BL⟩
 by_cases k2:kind=2
 · subst k2
   have HF:=Lib.hid (show termB F ⟨2,var,t0,t1⟩=(inB var F.vars.length&&(decide (t0=0)&&decide (t1=0))) by simp[termB]);clear k0 k1;have heq:=arr2_eq t0 t1 0 0;have hgd:=arr2_guard;cases b0:inB var F.vars.length
   all_goals
    rw[b0]at HF v0;clear b0;go_enter Tryz.func143,Tryz.ntmps143;go_wp2_with(go_at_call 168;refine(v0 _).mono ?_;(rintro e w1 ⟨rfl,hb1⟩;obtain⟨hc1,hf1⟩:=bcell hb1;have hz1:=hb1.size;try simp at hz1;try have hy1:=Nat.lt_of_succ_le hz1;try have hx1:=Nat.lt_of_succ_lt hy1;try have hw1:=Nat.lt_of_succ_lt hx1));go_ret;exact⟨ret_bool (by rw[HF.out,Bool.eq_iff_iff];simp),BL⟩
 have HF:=Lib.hid (show termB F ⟨kind,var,t0,t1⟩=false by simp[termB,k0,k1,k2]);go_enter Tryz.func143,Tryz.ntmps143;go_wp2;go_ret;exact⟨ret_bool HF.out.symm,BL⟩
end Go.Proofs.YtlhhfcleioikoaaGreatDoor
namespace Go.Proofs.YtlhhfcleioikoaaGreatDoor
open Go.RowKit
set_option maxRecDepth 100000
def PredPhi(W w:World)(k:FuncId)(c:Value)(ps:List PPhi)(p:PPhi→Bool):Prop:=
 ∀x,x∈ps→∀pv,PhiV W W.heap.size pv x→∀w1,Below w.heap.size w w1→Calls Tryz.prog k #[pv,c] w1 fun e w'=>e=.returned (.bool (p x))∧Below w1.heap.size w1 w'
theorem mem_of_Phi{b:PBlock}{i:Nat}(h:i<b.phis.length):b.phi i∈b.phis:=List.mem_of_getElem? (PBlock.phi_get h)
theorem drop_Phi{b:PBlock}{i:Nat}(h:i<b.phis.length):b.phis.drop i=b.phi i::b.phis.drop (i+1):=by
 rw[List.drop_eq_getElem_cons h];have:=PBlock.phi_get h;rw[List.getElem?_eq_getElem h]at this;injection this with this
 rw[this]
set_option maxHeartbeats 400000 in
theorem indexPhi_calls{W w:World}{A:Option Addr}{c0:Nat}{b:PBlock}(hr:Rd W.heap.size A b.phis 3 (PhiC W W.heap.size))(hl:Len b.phis.length)(hW:Below W.heap.size W w)(k:FuncId)(c:Value)(p:PPhi→Bool)(eg:∀args w,(callFunc k args).run Tryz.prog w=.ok (.enter k args) w)(hp:PredPhi W w k c b.phis p) :
 Calls Tryz.prog 167 #[.slice A b.phis.length c0,.func (.func k) #[] #[c]] w fun e w'=>e=.returned (.int .i64 (firstIdx p b.phis 0))∧Below w.heap.size w w':=by
 unfold Len at hl;go_enter Tryz.func167,Tryz.ntmps167;go_wp2
 go_loopw[5,8] (fun _ i wr=>∃n:Nat,i=.int .i64 n∧n≤b.phis.length∧Below w.heap.size w wr∧Hid (firstIdx p b.phis 0=firstIdx p (b.phis.drop n) n)) (fun _ i _=>b.phis.length-(intOf i).toNat)
 case atStart=>exact⟨0,rfl,Nat.zero_le _,Below.refl _ _,by simp[Hid]⟩
 case round=>
  obtain⟨n,rfl,hn,hb,hf⟩:=hrel
  by_cases hlt:n<b.phis.length
  · obtain⟨bb,off,A1,c1,A2,c2,rfl,hbs,x0,x1,x2,l1,l2,k1,k2,r1,r2⟩:=hr.phi (hW.trans (hb.mono hW.size)) hlt
    have hcl:=hp _ (mem_of_Phi hlt) _ ⟨_,_,rfl,⟨A1,c1,rfl,l1,k1,r1⟩,A2,c2,rfl,l2,k2,r2⟩ wr hb;have hd:=Lib.hid (drop_Phi hlt);clear l1 k1 r1 l2 k2 r2;cases hx:p (b.phi n)
    · rw[hx]at hcl
      have hf2:=Lib.hid (show firstIdx p b.phis 0=firstIdx p (b.phis.drop (n+1)) (n+1) by rw[hf.out,hd.out,firstIdx,if_neg (by rw[hx];decide)]);clear hx;go_wp2_with(go_at_fn k;refine hcl.mono ?_;(rintro e w1 ⟨rfl,hb1⟩;obtain⟨hc1,hf1⟩:=bcell hb1;have hz1:=hb1.size;try simp at hz1;try have hy1:=Nat.lt_of_succ_le hz1;try have hx1:=Nat.lt_of_succ_lt hy1;try have hw1:=Nat.lt_of_succ_lt hx1));go_roundw
      case rel=>exact⟨n+1,ZN,ZO,BL,hf2⟩
      case measure=>simp[intOf];omega
    · rw[hx]at hcl
      have hf2:=Lib.hid (show firstIdx p b.phis 0=n by rw[hf.out,hd.out,firstIdx,if_pos hx]);clear hx;go_wp2_with(go_at_fn k;refine hcl.mono ?_;(rintro e w1 ⟨rfl,hb1⟩;obtain⟨hc1,hf1⟩:=bcell hb1;have hz1:=hb1.size;try simp at hz1;try have hy1:=Nat.lt_of_succ_le hz1;try have hx1:=Nat.lt_of_succ_lt hy1;try have hw1:=Nat.lt_of_succ_lt hx1));go_ret;exact⟨ret_int hf2.out.symm,BL⟩
  · have hf2:=Lib.hid (show firstIdx p b.phis 0=-1 by rw[hf.out,List.drop_eq_nil_of_le ZO];rfl)
    go_wp2;go_ret;exact⟨ret_int hf2.out.symm,hb⟩
theorem containsPhi_calls{W w:World}{A:Option Addr}{c0:Nat}{b:PBlock}(hr:Rd W.heap.size A b.phis 3 (PhiC W W.heap.size))(hl:Len b.phis.length)(hW:Below W.heap.size W w)(k:FuncId)(c:Value)(p:PPhi→Bool)(eg:∀args w,(callFunc k args).run Tryz.prog w=.ok (.enter k args) w)(hp:PredPhi W w k c b.phis p) :
 Calls Tryz.prog 138 #[.slice A b.phis.length c0,.func (.func k) #[] #[c]] w fun e w'=>e=.returned (.bool (b.phis.any p))∧Below w.heap.size w w':=by
 have hi:=indexPhi_calls (c0:=c0) hr hl hW k c p eg hp;go_enter Tryz.func138,Tryz.ntmps138;go_wp2_with(go_at_call 167;refine hi.mono ?_;rintro e w1 ⟨rfl,hb⟩);go_ret;exact⟨ret_bool' (by simp only[decide_eq_true_eq];exact firstIdx_neg p b.phis 0),hb⟩
theorem eg_shaped1:∀args w,(callFunc 139 args).run Tryz.prog w=.ok (.enter 139 args) w:=fun _ _=>by kernel_rfl
theorem shaped1_calls{W w:World}{fv c pv:Value}{F:PFunc}{x:PPhi}(hF:FnV W W.heap.size fv F)(hW:Below W.heap.size W w)(hc:FnBox w c fv)(hp:PhiV W W.heap.size pv x) :
 Calls Tryz.prog 139 #[pv,c] w fun e w'=>e=.returned (.bool (!phiB F x))∧Below w.heap.size w w':=by
 have h1:=fun(w:World) (h:Below W.heap.size W w)=>phi_calls hF hp h
 have hWs:=hW.size;obtain⟨b,y0,y1,y2,rfl,rfl,hl,h00,h01,h02⟩:=hc;obtain⟨A1,c1,A2,c2,rfl,-⟩:=hp.open_;go_enter Tryz.func139,Tryz.ntmps139;go_wp2_with(go_at_call 140;refine(h1 _ BL).mono ?_;rintro e w1 ⟨rfl,hb⟩);go_ret;exact⟨rfl,BL⟩
theorem pred_shaped1{W w:World}{fv c:Value}{F:PFunc}(hF:FnV W W.heap.size fv F)(hW:Below W.heap.size W w)(hc:FnBox w c fv)(xs:List PPhi):PredPhi W w 139 c xs (fun x=>!phiB F x):=
 fun _ _ _ hp _ hb=>shaped1_calls hF (hW.trans (hb.mono hW.size)) (hc.later hb) hp
def PredInst(W w:World)(k:FuncId)(c:Value)(ps:List PInst)(p:PInst→Bool):Prop:=
 ∀x,x∈ps→∀pv,InstV W W.heap.size pv x→∀w1,Below w.heap.size w w1→Calls Tryz.prog k #[pv,c] w1 fun e w'=>e=.returned (.bool (p x))∧Below w1.heap.size w1 w'
theorem mem_of_Inst{b:PBlock}{i:Nat}(h:i<b.insts.length):b.inst i∈b.insts:=List.mem_of_getElem? (PBlock.inst_get h)
theorem drop_Inst{b:PBlock}{i:Nat}(h:i<b.insts.length):b.insts.drop i=b.inst i::b.insts.drop (i+1):=by
 rw[List.drop_eq_getElem_cons h];have:=PBlock.inst_get h;rw[List.getElem?_eq_getElem h]at this;injection this with this
 rw[this]
set_option maxHeartbeats 400000 in
theorem indexInst_calls{W w:World}{A:Option Addr}{c0:Nat}{b:PBlock}(hr:Rd W.heap.size A b.insts 4 (InstC W W.heap.size))(hl:Len b.insts.length)(hW:Below W.heap.size W w)(k:FuncId)(c:Value)(p:PInst→Bool)(eg:∀args w,(callFunc k args).run Tryz.prog w=.ok (.enter k args) w)(hp:PredInst W w k c b.insts p) :
 Calls Tryz.prog 38 #[.slice A b.insts.length c0,.func (.func k) #[] #[c]] w fun e w'=>e=.returned (.int .i64 (firstIdx p b.insts 0))∧Below w.heap.size w w':=by
 unfold Len at hl;go_enter Tryz.func38,Tryz.ntmps38;go_wp2
 go_loopw[5,8] (fun _ i wr=>∃n:Nat,i=.int .i64 n∧n≤b.insts.length∧Below w.heap.size w wr∧Hid (firstIdx p b.insts 0=firstIdx p (b.insts.drop n) n)) (fun _ i _=>b.insts.length-(intOf i).toNat)
 case atStart=>exact⟨0,rfl,Nat.zero_le _,Below.refl _ _,by simp[Hid]⟩
 case round=>
  obtain⟨n,rfl,hn,hb,hf⟩:=hrel
  by_cases hlt:n<b.insts.length
  · obtain⟨bb,off,A1,c1,rfl,hbs,x0,x1,x2,x3,l1,k1,r1⟩:=hr.inst (hW.trans (hb.mono hW.size)) hlt
    have hcl:=hp _ (mem_of_Inst hlt) _ ⟨_,rfl,A1,c1,rfl,l1,k1,r1⟩ wr hb;have hd:=Lib.hid (drop_Inst hlt);clear l1 k1 r1;cases hx:p (b.inst n)
    · rw[hx]at hcl
      have hf2:=Lib.hid (show firstIdx p b.insts 0=firstIdx p (b.insts.drop (n+1)) (n+1) by rw[hf.out,hd.out,firstIdx,if_neg (by rw[hx];decide)]);clear hx;go_wp2_with(go_at_fn k;refine hcl.mono ?_;(rintro e w1 ⟨rfl,hb1⟩;obtain⟨hc1,hf1⟩:=bcell hb1;have hz1:=hb1.size;try simp at hz1;try have hy1:=Nat.lt_of_succ_le hz1;try have hx1:=Nat.lt_of_succ_lt hy1;try have hw1:=Nat.lt_of_succ_lt hx1));go_roundw
      case rel=>exact⟨n+1,ZN,ZO,BL,hf2⟩
      case measure=>simp[intOf];omega
    · rw[hx]at hcl
      have hf2:=Lib.hid (show firstIdx p b.insts 0=n by rw[hf.out,hd.out,firstIdx,if_pos hx]);clear hx;go_wp2_with(go_at_fn k;refine hcl.mono ?_;(rintro e w1 ⟨rfl,hb1⟩;obtain⟨hc1,hf1⟩:=bcell hb1;have hz1:=hb1.size;try simp at hz1;try have hy1:=Nat.lt_of_succ_le hz1;try have hx1:=Nat.lt_of_succ_lt hy1;try have hw1:=Nat.lt_of_succ_lt hx1));go_ret;exact⟨ret_int hf2.out.symm,BL⟩
  · have hf2:=Lib.hid (show firstIdx p b.insts 0=-1 by rw[hf.out,List.drop_eq_nil_of_le ZO];rfl)
    go_wp2;go_ret;exact⟨ret_int hf2.out.symm,hb⟩
theorem containsInst_calls{W w:World}{A:Option Addr}{c0:Nat}{b:PBlock}(hr:Rd W.heap.size A b.insts 4 (InstC W W.heap.size))(hl:Len b.insts.length)(hW:Below W.heap.size W w)(k:FuncId)(c:Value)(p:PInst→Bool)(eg:∀args w,(callFunc k args).run Tryz.prog w=.ok (.enter k args) w)(hp:PredInst W w k c b.insts p) :
 Calls Tryz.prog 69 #[.slice A b.insts.length c0,.func (.func k) #[] #[c]] w fun e w'=>e=.returned (.bool (b.insts.any p))∧Below w.heap.size w w':=by
 have hi:=indexInst_calls (c0:=c0) hr hl hW k c p eg hp;go_enter Tryz.func69,Tryz.ntmps69;go_wp2_with(go_at_call 38;refine hi.mono ?_;rintro e w1 ⟨rfl,hb⟩);go_ret;exact⟨ret_bool' (by simp only[decide_eq_true_eq];exact firstIdx_neg p b.insts 0),hb⟩
theorem eg_shaped2:∀args w,(callFunc 141 args).run Tryz.prog w=.ok (.enter 141 args) w:=fun _ _=>by kernel_rfl
theorem shaped2_calls{W w:World}{fv c pv:Value}{F:PFunc}{x:PInst}(hF:FnV W W.heap.size fv F)(hW:Below W.heap.size W w)(hc:FnBox w c fv)(hp:InstV W W.heap.size pv x) :
 Calls Tryz.prog 141 #[pv,c] w fun e w'=>e=.returned (.bool (!instB F x))∧Below w.heap.size w w':=by
 have h1:=fun(w:World) (h:Below W.heap.size W w)=>inst_calls hF hp h
 have hWs:=hW.size;obtain⟨b,y0,y1,y2,rfl,rfl,hl,h00,h01,h02⟩:=hc;obtain⟨A1,c1,rfl,-⟩:=hp.open_;go_enter Tryz.func141,Tryz.ntmps141;go_wp2_with(go_at_call 142;refine(h1 _ BL).mono ?_;rintro e w1 ⟨rfl,hb⟩);go_ret;exact⟨rfl,BL⟩
theorem pred_shaped2{W w:World}{fv c:Value}{F:PFunc}(hF:FnV W W.heap.size fv F)(hW:Below W.heap.size W w)(hc:FnBox w c fv)(xs:List PInst):PredInst W w 141 c xs (fun x=>!instB F x):=
 fun _ _ _ hp _ hb=>shaped2_calls hF (hW.trans (hb.mono hW.size)) (hc.later hb) hp
end Go.Proofs.YtlhhfcleioikoaaGreatDoor
namespace Go.Proofs.YtlhhfcleioikoaaGreatDoor
open Go.RowKit Go.WideMaps Go.Maps
set_option maxRecDepth 100000
theorem lawS:Keyed Tryz.prog 9:=string_keyed Tryz.underlying9
theorem zeroI(w:World):(zeroValue 3).run Tryz.prog w=.ok (.int .i64 0) w:=by kernel_rfl
def keyL(s:ByteArray):Lit:=.string s.data.toList
theorem keyS{s:ByteArray}(h:s.size≤maxLen):keyOf Tryz.prog 9 (.string s)=some (keyL s):=keyOf_string_mk Tryz.underlying9 h
theorem keyL_inj{s t:ByteArray}(h:keyL s=keyL t):s=t:=by
 unfold keyL at h;injection h with h
 obtain⟨a⟩:=s;obtain⟨b⟩:=t;simp only[ByteArray.mk.injEq];exact Array.toList_inj.1 h
def OwnM(w:World)(b n:Nat)(f:ByteArray→Int):Prop:=
 ∃D:DataW Unit,w.ownsMap Tryz.prog 9 (plainElem Tryz.prog 3) b n D∧∀s:ByteArray,D.atKey (keyL s) (.lit (.int .i64 0))=.lit (.int .i64 (f s))
theorem OwnM.made(w:World):OwnM (w.alloc (.map #[] 0)) w.heap.size 0 (fun _=>0):=⟨.map [],World.ownsMap_made _ _ _ _,fun _=>rfl⟩
theorem OwnM.lt{w:World}{b n:Nat}{f:ByteArray→Int}(h:OwnM w b n f):b<w.heap.size:=by
 obtain⟨D,h,_⟩:=h;exact h.lt
theorem OwnM.below{w w':World}{b n:Nat}{f:ByteArray→Int}(h:OwnM w b n f)(hb:Below w.heap.size w w'):OwnM w' b n f:=by
 obtain⟨D,h1,h2⟩:=h;exact⟨D,h1.kept (row:=none) ⟨hb.os,hb.tape,hb.output,hb.size,fun k hk _=>hb.block k hk⟩ ZS,h2⟩
theorem OwnM.look{w:World}{b n:Nat}{f:ByteArray→Int}(h:OwnM w b n f){s:ByteArray}(hs:s.size≤maxLen) :
 (Instr.lookup 158 (.map (some b)) (.string s) false).run Tryz.prog w=.ok (.int .i64 (f s)) w:=by
 obtain⟨D,h1,h2⟩:=h;obtain⟨c,hrun,hat,_⟩:=h1.lookup_int lawS Tryz.underlying158 Tryz.underlying3 (zeroI _) (keyS hs);rw[h2 s]at hat;have hc:f s=c:=by injection hat with hat;injection hat
 rw[hc];exact hrun
theorem wpList_mput(w:World){ops:Array Oper}{rest:List Oper}{o:Oper}{a:Act}{Q:Exit→Act→World→Prop}
 (hg:o.guard=none) (m x v:Operand) (hop:o.op=Op.mapUpdate 158 m x v) {b n:Nat} {f:ByteArray→Int} (hm:a.eval m=.map (some b)) (hown:OwnM w b n f) (hn:n<maxLen)
 (s:ByteArray) (hs:s.size≤maxLen) (hx:a.eval x=.string s) (c:Int) (hv:a.eval v=.int .i64 c) (hc:(Lit.int .i64 c).wf=true)
 (hK:∀w',OwnM w' b (n+1) (fun t=>if t=s then c else f t)→w.grownBy w' (some b)→wpList Tryz.prog ops Q rest (a.put o.dst undef) w'):wpList Tryz.prog ops Q (o::rest) a w:=by
 obtain⟨D,h1,h2⟩:=hown;refine wpList_mapUpdate_own w hg m x v 158 hop 9 3 lawS Tryz.underlying158 _ b n D hm h1 hn _ _ _ hx hv (keyS hs) _ [] (plainElem_int Tryz.underlying3 hc) ?_;intro w' h3 hg';refine hK w' ⟨_,h3,fun t=>?_⟩ hg'
 by_cases ht:t=s
 · subst ht
   show _=DataW.lit (.int .i64 (if t=t then c else f t));rw[if_pos rfl];exact atKey_put_same h1.isMap (lawS.key (keyS hs)) _ _
 · show _=DataW.lit (.int .i64 (if t=s then c else f t))
   rw[if_neg ht,atKey_put_other (fun e=>ht (keyL_inj e)),h2 t]
def StrC(w:World)(b o:Nat)(s:ByteArray):Prop:=s.size≤maxLen∧w.cell? ⟨b,o,none⟩=some (.string s)
def sth(xs:List ByteArray)(i:Nat):ByteArray:=xs.getD i ByteArray.empty
theorem sth_get{xs:List ByteArray}{i:Nat}(h:i<xs.length):xs[i]?=some (sth xs i):=by simp[sth,h]
theorem drop_sth{xs:List ByteArray}{i:Nat}(h:i<xs.length):xs.drop i=sth xs i::xs.drop (i+1):=by
 rw[List.drop_eq_getElem_cons h];have:=sth_get h;rw[List.getElem?_eq_getElem h]at this;injection this with this
 rw[this]
theorem take_sth{xs:List ByteArray}{i:Nat}(h:i<xs.length):xs.take (i+1)=xs.take i++[sth xs i]:=by
 have:=sth_get h;rw[List.take_add_one,this];rfl
theorem Rd.str{W w:World}{A:Option Addr}{xs:List ByteArray}(h:Rd W.heap.size A xs 1 (StrC W))(hw:Below W.heap.size W w){i:Nat}(hi:i<xs.length) :
 ∃b off,A=some ⟨b,off,none⟩∧b<w.heap.size∧(sth xs i).size≤maxLen∧w.cell? ⟨b,off+i,none⟩=some (.string (sth xs i)):=by
 obtain⟨b,off,ha,hb,hr⟩:=h i _ (sth_get hi);refine⟨b,off,ha,by have:=hw.size;omega,hr.1,?_⟩;rw[hw.cell (p:=⟨b,off+i,none⟩) hb];simpa using hr.2
def memB(seen:List ByteArray)(s:ByteArray):Bool:=seen.any fun x=>decide (x=s)
def unlikeB:List ByteArray→List ByteArray→Bool
 |_,[]=>true
 |seen,s::r=>nameB s&&!(memB seen s)&&unlikeB (seen++[s]) r
def cnt(seen:List ByteArray)(t:ByteArray):Int:=if memB seen t then 1 else 0
theorem cnt_snoc{seen:List ByteArray}{s:ByteArray}(h:memB seen s=false):(fun t=>if t=s then cnt seen s+1 else cnt seen t)=cnt (seen++[s]):=by
 funext t;unfold cnt
 by_cases ht:t=s
 · subst ht;rw[if_pos rfl,h];simp[memB]
 · rw[if_neg ht,show memB (seen++[s]) t=memB seen t by unfold memB;rw[List.any_append];simp[show ¬s=t from fun e=>ht e.symm]]
set_option maxHeartbeats 1000000 in
theorem unlike_calls{W w:World}{A:Option Addr}{c0:Nat}{xs:List ByteArray}(hU:Uni W)(hr:Rd W.heap.size A xs 1 (StrC W))(hl:xs.length≤1048576)(hW:Below W.heap.size W w) :
 Calls Tryz.prog 166 #[.slice A xs.length c0] w fun e w'=>e=.returned (.bool (unlikeB [] xs))∧Below w.heap.size w w':=by
 have hmm:=@run_makeMap Tryz.prog;go_enter Tryz.func166,Tryz.ntmps166;go_wp2
 go_loopw[9] (fun i wr=>∃n:Nat,i=.int .i64 n∧n≤xs.length∧Below w.heap.size w wr∧OwnM wr w.heap.size n (cnt (xs.take n))∧Hid (unlikeB [] xs=unlikeB (xs.take n) (xs.drop n))) (fun i _=>xs.length-(intOf i).toNat)
 case atStart=>exact⟨0,rfl,Nat.zero_le _,BL,by rw[show cnt (xs.take 0)=fun _=>0 from by funext t;rfl];exact OwnM.made w,by simp[Hid]⟩
 case round=>
  obtain⟨n,rfl,hn,hb,hm,hf⟩:=hrel
  by_cases hlt:n<xs.length
  · have hWr:=hW.trans (hb.mono hW.size)
    obtain⟨b,off,rfl,hbs,hsz,hc⟩:=hr.str hWr hlt;have hnm:=name_calls hU hWr (sth xs n) hsz;have hd:=Lib.hid (drop_sth hlt);have htk:=Lib.hid (take_sth hlt);have hml:=hm.lt;cases hx:nameB (sth xs n)
    · have hf2:=Lib.hid (show unlikeB [] xs=false by rw[hf.out,hd.out,unlikeB,hx];rfl)
      rw[hx]at hnm;clear hx;go_wp2_with(go_at_call 185;refine hnm.mono ?_;(rintro e w1 ⟨rfl,hb1⟩;obtain⟨hc1,hf1⟩:=bcell hb1;have hz1:=hb1.size;try simp at hz1;try have hy1:=Nat.lt_of_succ_le hz1;try have hx1:=Nat.lt_of_succ_lt hy1;try have hw1:=Nat.lt_of_succ_lt hx1));go_ret;exact⟨ret_bool hf2.out.symm,BL⟩
    · rw[hx]at hnm
      cases hs:memB (xs.take n) (sth xs n)
      rotate_left
      · have hf2:=Lib.hid (show unlikeB [] xs=false by rw[hf.out,hd.out,unlikeB,hs];simp)
        have hk:cnt (xs.take n) (sth xs n)=1:=by rw[cnt,if_pos hs]
        clear hx hs;go_wp2_with(go_at_call 185;refine hnm.mono ?_;(rintro e w1 ⟨rfl,hb1⟩;obtain⟨hc1,hf1⟩:=bcell hb1;have hz1:=hb1.size;try simp at hz1;try have hy1:=Nat.lt_of_succ_le hz1;try have hx1:=Nat.lt_of_succ_lt hy1;try have hw1:=Nat.lt_of_succ_lt hx1);have hlk:=(hm.below hb1).look hsz;rw[hk]at hlk);go_ret;exact⟨ret_bool hf2.out.symm,BL⟩
      · have hf2:=Lib.hid (show unlikeB [] xs=unlikeB (xs.take (n+1)) (xs.drop (n+1)) by rw[hf.out,hd.out,unlikeB,hx,hs,htk.out];rfl)
        have hk:cnt (xs.take n) (sth xs n)=0:=by rw[cnt,hs];rfl
        have HS:=Lib.hid (cnt_snoc hs);have HK:=Lib.hid hk;clear hx hs;go_wp2_with(first|(go_at_call 185;refine hnm.mono ?_;(rintro e w1 ⟨rfl,hb1⟩;obtain⟨hc1,hf1⟩:=bcell hb1;have hz1:=hb1.size;try simp at hz1;try have hy1:=Nat.lt_of_succ_le hz1;try have hx1:=Nat.lt_of_succ_lt hy1;try have hw1:=Nat.lt_of_succ_lt hx1);have hm1:=hm.below hb1;have hlk:=hm1.look hsz;rw[hk]at hlk;clear hk)|(at_mapUpdate;refine wpList_mput _ rfl _ _ _ rfl rfl hm1 (by unfold maxLen;omega) (sth xs n) hsz rfl _ rfl ZD ?_;intro w2 hm2 hg2));go_roundw
        case rel=>exact⟨n+1,ZN,ZO,(hb.trans (hb1.mono hb.size)).grown hg2 (by have:=hb1.size;omega) (fun k hk=>by cases hk;exact Nat.le_refl _),by rw[htk.out,← HS.out,HK.out];exact hm2,hf2⟩
        case measure=>simp[intOf];omega
  · have hf2:=Lib.hid (show unlikeB [] xs=true by rw[hf.out,List.drop_eq_nil_of_le ZO];rfl)
    go_wp2;go_ret;exact⟨ret_bool hf2.out.symm,hb⟩
end Go.Proofs.YtlhhfcleioikoaaGreatDoor
namespace Go.Proofs.YtlhhfcleioikoaaGreatDoor
open Go.RowKit
set_option maxRecDepth 100000
def Small(F:PFunc):Prop:=F.vars.length≤1048575∧F.blocks.length≤1048575∧∀i,i<F.blocks.length→(F.blk i).phis.length≤1048576∧(F.blk i).insts.length≤1048576
def okTy(t:Int):Bool:=decide (t=0)||decide (t=1)||decide (t=2)
theorem typeWord_empty(t:Int):(typeWord t).toList.isEmpty=!okTy t:=by
 unfold typeWord okTy
 by_cases h0:t=0
 · subst h0;decide +kernel
 · by_cases h1:t=1
   · subst h1;decide +kernel
   · by_cases h2:t=2
     · subst h2;decide +kernel
     · simp only[h0,h1,h2];decide +kernel
theorem Tryz.info9:(Tryz.prog.info? 9).map (fun i=>(i.zero,i.size,i.bytes))=some (some (.string ByteArray.empty),1,16):=by kernel_rfl
def vnames(F:PFunc):List ByteArray:=F.vars.map (·.name)
def bnames(F:PFunc):List ByteArray:=F.blocks.map (·.name)
theorem drop_var{F:PFunc}{i:Nat}(h:i<F.vars.length):F.vars.drop i=F.var i::F.vars.drop (i+1):=by
 rw[List.drop_eq_getElem_cons h];have:=PFunc.var_get h;rw[List.getElem?_eq_getElem h]at this;injection this with this
 rw[this]
theorem drop_blk{F:PFunc}{i:Nat}(h:i<F.blocks.length):F.blocks.drop i=F.blk i::F.blocks.drop (i+1):=by
 rw[List.drop_eq_getElem_cons h];have:=PFunc.blk_get h;rw[List.getElem?_eq_getElem h]at this;injection this with this
 rw[this]
theorem take_var{F:PFunc}{i:Nat}(h:i<F.vars.length):(vnames F).take (i+1)=(vnames F).take i++[(F.var i).name]:=by
 rw[List.take_add_one];simp[vnames,PFunc.var_get h]
theorem take_blk{F:PFunc}{i:Nat}(h:i<F.blocks.length):(bnames F).take (i+1)=(bnames F).take i++[(F.blk i).name]:=by
 rw[List.take_add_one];simp[bnames,PFunc.blk_get h]
def countsB:List Int→Nat→Bool
 |[],_=>true
 |p::r,i=>decide (p=i)&&countsB r (i+1)
def namesB(F:PFunc):Bool:=F.vars.all (fun v=>okTy v.ty)&&countsB F.params 0&&decide (F.vars.length≤512)&&decide (F.params.length≤8)&&decide (F.params.length≤F.vars.length)&&decide (1≤F.blocks.length)&&decide (F.blocks.length≤64)&&
 unlikeB [] (vnames F)&&unlikeB [] (bnames F)
theorem Rd.of_own_str{w:World}{base:Nat}{e:TypeId}{c n:Nat}{A:Option Addr}{xs:List ByteArray}(hsz:∀s∈xs,s.size≤maxLen)(h:w.ownsRow base e 1 (.slice A n c) n (xs.map Value.string)):n=xs.length∧Rd w.heap.size A xs 1 (StrC w):=by
 obtain⟨hl,h⟩:=h;have hn:n=xs.length:=by simpa using hl.symm
 rcases h with⟨hv,hn0⟩|⟨g,cap,cur,hv,hb,hg,hnc,hcm,hs,hcur⟩
 · injection hv with h1 h2 h3
   subst h1 h2 h3;refine⟨hn,fun i x hx=>?_⟩;have:xs=[]:=List.eq_nil_of_length_eq_zero hn.symm;subst this;simp at hx
 · injection hv with h1 h2 h3
   subst h1 h3;refine⟨hn,fun i x hx=>⟨g,0,rfl,(Array.getElem?_eq_some_iff.1 hg).1,hsz x (List.mem_of_getElem? hx),?_⟩⟩;rw[cell_of_row w g _ cur e (0,0) hg];have:(cur.toList.take (n*1))[i]?=some (.string x):=by rw[hcur];simp[hx]
   rw[List.getElem?_take]at this;split at this
   · simpa using this
   · cases this
theorem box3{w w':World}{x y z:Value}{t:TypeId}(hb:Below (w.heap.size+1) (w.alloc (.cells #[x,y,z] t)) w') :
 w.heap.size<w'.heap.size∧w'.cell? ⟨w.heap.size,0,none⟩=some x∧w'.cell? ⟨w.heap.size,1,none⟩=some y∧w'.cell? ⟨w.heap.size,2,none⟩=some z:=by
 have hg:=heap_alloc_new w (.cells #[x,y,z] t);have hs:=hb.size;simp at hs;exact⟨hs,(hb.cell (p:=⟨w.heap.size,0,none⟩) (Nat.lt_succ_self _)).trans (cell_of_row _ _ 0 _ _ _ hg),(hb.cell (p:=⟨w.heap.size,1,none⟩) (Nat.lt_succ_self _)).trans (cell_of_row _ _ 1 _ _ _ hg),(hb.cell (p:=⟨w.heap.size,2,none⟩) (Nat.lt_succ_self _)).trans (cell_of_row _ _ 2 _ _ _ hg)⟩
set_option maxHeartbeats 4000000 in
theorem names_calls{W w:World}{fv:Value}{F:PFunc}(hU:Uni W)(hF:FnV W W.heap.size fv F)(hW:Below W.heap.size W w)(hS:Small F) :
 Calls Tryz.prog 137 #[fv] w fun e w'=>e=.returned (.bool (namesB F))∧Below w.heap.size w w':=by
 obtain⟨A0,c0,A1,c1,A2,c2,rfl,l0,l1,l2,-,-,-,r0,r1,r2⟩:=id hF.open_;obtain⟨s0,s1,-⟩:=id hS;unfold Len at *;have hWs:=hW.size;have hvz:∀s∈vnames F,s.size≤maxLen:=fun s hs=>by
  obtain⟨v,hv,rfl⟩:=List.mem_map.1 hs;obtain⟨i,hi⟩:=List.mem_iff_getElem?.1 hv;obtain⟨b,off,_,_,hr⟩:=r0 i v hi;exact hr.1
 have hbz:∀s∈bnames F,s.size≤maxLen:=fun s hs=>by
  obtain⟨v,hv,rfl⟩:=List.mem_map.1 hs;obtain⟨i,hi⟩:=List.mem_iff_getElem?.1 hv;obtain⟨b,off,_,_,hr⟩:=r2 i v hi;exact hr.1
 have hb0:=(Below.refl w.heap.size w).alloc (Nat.le_refl _) (.cells #[.slice A0 F.vars.length c0,.slice A1 F.params.length c1,.slice A2 F.blocks.length c2] 26);go_enter Tryz.func137,Tryz.ntmps137;go_wp2
 go_loopw[3,14] (fun v i wr=>∃n:Nat,i=.int .i64 n∧n≤F.vars.length∧Below (w.heap.size+1) (w.alloc (.cells #[.slice A0 F.vars.length c0,.slice A1 F.params.length c1,.slice A2 F.blocks.length c2] 26)) wr∧
  wr.ownsRow (w.heap.size+1) 9 1 v n (((vnames F).take n).map Value.string)∧Hid (F.vars.all (fun v=>okTy v.ty)=(F.vars.drop n).all (fun v=>okTy v.ty))) (fun _ i _=>F.vars.length-(intOf i).toNat)
 case atStart=>exact⟨0,rfl,Nat.zero_le _,Below.refl _ _,⟨rfl,.inl ⟨rfl,rfl⟩⟩,by simp[Hid]⟩
 case round=>
  obtain⟨n,rfl,hn,hb,hown,hf⟩:=hrel;have hbs:=hb.size;simp at hbs;have hWr:Below W.heap.size W wr:=(hW.alloc hWs _).trans (hb.mono ZO)
  by_cases hlt:n<F.vars.length
  · obtain⟨b,off,rfl,hbb,hnz,hc0,hc1⟩:=r0.var hWr hlt
    have hd:=Lib.hid (drop_var hlt);have htk:=Lib.hid (take_var hlt);have hte:=typeWord_empty (F.var n).ty;cases ho:okTy (F.var n).ty
    · have HF:=Lib.hid (show namesB F=false by rw[namesB,hf.out,hd.out,List.all_cons,ho];rfl)
      rw[ho]at hte;clear ho
      go_wp2_with(first
       |(at_builtin;refine wpList_append1 _ rfl _ _ 98 rfl (w.heap.size+1) 9 16 Tryz.underlying98 Tryz.info9 rfl _ _ _ rfl (hown.alloc _) _ ZS _ rfl rfl ZO ZD ZX ?_;intro v' w3 hown2 hg;have hgs:=hg.size;simp at hgs;have hgl:=Nat.lt_of_succ_le hgs;have hgm:=Nat.lt_of_succ_lt hgl;have hg1:=grown_cell hown hg ⟨wr.heap.size,1,none⟩ (.inr (Nat.le_refl _)) ZX;have hB3:=grown_below (hown.alloc _) hg (hb.alloc ZO _) (Nat.le_refl _) ZX)
       |(go_at_call 165;refine(typeWord_calls _).mono ?_;rintro e w2 ⟨rfl,rfl⟩))
      go_ret;exact⟨ret_bool HF.out.symm,hb0.trans (hB3.mono (Nat.le_succ _))⟩
    · have HF:=Lib.hid (show(F.vars.all fun v=>okTy v.ty)=((F.vars.drop (n+1)).all fun v=>okTy v.ty) by rw[hf.out,hd.out,List.all_cons,ho];rfl)
      rw[ho]at hte;clear ho
      go_wp2_with(first
       |(at_builtin;refine wpList_append1 _ rfl _ _ 98 rfl (w.heap.size+1) 9 16 Tryz.underlying98 Tryz.info9 rfl _ _ _ rfl (hown.alloc _) _ ZS _ rfl rfl ZO ZD ZX ?_;intro v' w3 hown2 hg;have hgs:=hg.size;simp at hgs;have hgl:=Nat.lt_of_succ_le hgs;have hgm:=Nat.lt_of_succ_lt hgl;have hg1:=grown_cell hown hg ⟨wr.heap.size,1,none⟩ (.inr (Nat.le_refl _)) ZX;have hB3:=grown_below (hown.alloc _) hg (hb.alloc ZO _) (Nat.le_refl _) ZX)
       |(go_at_call 165;refine(typeWord_calls _).mono ?_;rintro e w2 ⟨rfl,rfl⟩))
      go_roundw
      case rel=>exact⟨n+1,ZN,ZO,hB3,by rw[htk.out];simpa using hown2,HF⟩
      case measure=>simp[intOf];omega
  · have hnl:n=F.vars.length:=by omega
    have hf1:=Lib.hid (show(F.vars.all fun v=>okTy v.ty)=true by rw[hf.out,hnl,List.drop_eq_nil_of_le (Nat.le_refl _)];rfl);rw[hnl,show(vnames F).take F.vars.length=vnames F from List.take_of_length_le (by simp[vnames])]at hown;clear hf hn hlt;subst hnl;obtain⟨hq,-,hq1,hq2⟩:=box3 hb;go_wp2;obtain⟨wo,rfl⟩:∃wo:World,wo=wr:=⟨_,rfl⟩
    go_loopw[4,31] (fun v i wr=>∃n:Nat,i=.int .i64 n∧n≤F.blocks.length∧Below wo.heap.size wo wr∧wr.ownsRow wo.heap.size 9 1 v n (((bnames F).take n).map Value.string)) (fun _ i _=>F.blocks.length-(intOf i).toNat)
    case atStart=>exact⟨0,rfl,Nat.zero_le _,Below.refl _ _,⟨rfl,.inl ⟨rfl,rfl⟩⟩⟩
    case round=>
     obtain⟨n,rfl,hn,hb2,hown2⟩:=hrel;have hbs2:=hb2.size
     by_cases hlt:n<F.blocks.length
     · have hWr2:Below W.heap.size W wr:=hWr.trans (hb2.mono hWr.size)
       obtain⟨b,off,A3,c3,A4,c4,rfl,hbb,hnz,hy0,hy1,hy2,hy3,hy4,hy5,hy6,-⟩:=r2.blk hWr2 hlt;have htk:=Lib.hid (take_blk hlt);go_wp2_with(at_builtin;refine wpList_append1 _ rfl _ _ 98 rfl wo.heap.size 9 16 Tryz.underlying98 Tryz.info9 rfl _ _ _ rfl (hown2.alloc _) _ ZS _ rfl rfl ZO ZD ZX ?_;intro v' w3 hown3 hg;have hB3:=grown_below (hown2.alloc _) hg (hb2.alloc ZO _) (Nat.le_refl _) ZX);go_roundw
       case rel=>exact⟨n+1,ZN,ZO,hB3,by rw[htk.out];simpa using hown3⟩
       case measure=>simp[intOf];omega
     · have hnl:n=F.blocks.length:=by omega
       rw[hnl,show(bnames F).take F.blocks.length=bnames F from List.take_of_length_le (by simp[bnames])]at hown2;clear hn hlt;subst hnl;have hown1:=own_below hown hb2;have hp2:wr.cell? ⟨w.heap.size,1,none⟩=some (.slice A1 F.params.length c1):=(hb2.cell (p:=⟨w.heap.size,1,none⟩) hq).trans hq1;have hp1:=Nat.lt_of_lt_of_le hq hb2.size;have hB:=(hb0.trans (hb.mono (Nat.le_succ _))).trans (hb2.mono (Nat.le_of_lt hq));have hWr2:Below W.heap.size W wr:=hWr.trans (hb2.mono hWr.size);clear hown hq hq1 hq2 hb;obtain⟨A5,c5,rfl⟩:=own_form hown1;obtain⟨A6,c6,rfl⟩:=own_form hown2;obtain⟨-,R5⟩:=Rd.of_own_str hvz hown1;obtain⟨-,R6⟩:=Rd.of_own_str hbz hown2;go_wp2
       go_loop[9,10,44] (fun _ _ i=>∃n:Nat,i=.int .i64 n∧n≤F.params.length∧Hid (countsB F.params 0=countsB (F.params.drop n) n)) (fun _ _ i=>F.params.length-(intOf i).toNat)
       case atStart=>exact⟨0,rfl,Nat.zero_le _,by simp[Hid]⟩
       case round=>
        obtain⟨n,rfl,hn,hf⟩:=hrel
        by_cases hlt:n<F.params.length
        · obtain⟨b,off,rfl,hbb,hy⟩:=r1.int hWr2 hlt
          have hd:=Lib.hid (drop_ith hlt)
          by_cases hp:ith F.params n=n
          · have HF:=Lib.hid (show countsB F.params 0=countsB (F.params.drop (n+1)) (n+1) by rw[hf.out,hd.out,countsB,hp];simp)
            have hp':(ith F.params n !=(n:Int))=false:=by simpa using hp
            clear hp;go_wp2
            go_round
            case rel=>exact⟨n+1,ZN,ZO,HF⟩
            case measure=>simp[intOf];omega
          · have HF:=Lib.hid (show namesB F=false by rw[namesB,hf.out,hd.out,countsB];simp[hp])
            have hp':(ith F.params n !=(n:Int))=true:=by simpa using hp
            clear hp;go_wp2;go_ret;exact⟨ret_bool HF.out.symm,hB⟩
        · have hf3:=Lib.hid (show countsB F.params 0=true by rw[hf.out,List.drop_eq_nil_of_le ZO];rfl)
          clear hf hn;have HN:=Lib.hid (show namesB F=(decide (F.vars.length≤512)&&decide (F.params.length≤8)&&decide (F.params.length≤F.vars.length)&&decide (1≤F.blocks.length)&&decide (F.blocks.length≤64)&&unlikeB [] (vnames F)&&unlikeB [] (bnames F)) by rw[namesB,hf1.out,hf3.out];rfl);clear hf1 hf3;have hu1:=fun(w:World) (h:Below wr.heap.size wr w)=>unlike_calls (c0:=c5) (hU.below hWr2) R5 (by simp[vnames];omega) h
          have hu2:=fun(w:World) (h:Below wr.heap.size wr w)=>unlike_calls (c0:=c6) (hU.below hWr2) R6 (by simp[bnames];omega) h
          rw[show(vnames F).length=F.vars.length by simp[vnames]]at hu1;rw[show(bnames F).length=F.blocks.length by simp[bnames]]at hu2
          by_cases t1:F.vars.length≤512
          case neg=>
           have HF:=Lib.hid (show namesB F=false by rw[HN.out];simp[t1]);go_wp2;go_ret;exact⟨ret_bool HF.out.symm,hB⟩
          by_cases t2:F.params.length≤8∧F.params.length≤F.vars.length
          case neg=>
           have HF:=Lib.hid (show namesB F=false by rw[HN.out];simp;omega);go_wp2;go_ret;exact⟨ret_bool HF.out.symm,hB⟩
          obtain⟨t2,t3⟩:=t2
          by_cases t4:1≤F.blocks.length
          case neg=>
           have HF:=Lib.hid (show namesB F=false by rw[HN.out];simp[t4]);go_wp2;go_ret;exact⟨ret_bool HF.out.symm,hB⟩
          by_cases t5:F.blocks.length≤64
          case neg=>
           have HF:=Lib.hid (show namesB F=false by rw[HN.out];simp[t5]);go_wp2;go_ret;exact⟨ret_bool HF.out.symm,hB⟩
          have HM:=Lib.hid (show namesB F=(unlikeB [] (vnames F)&&unlikeB [] (bnames F)) by rw[HN.out];simp[t1,t2,t3,t4,t5]);cases hx:unlikeB [] (vnames F)
          · rw[hx]at HM hu1
            clear hx;go_wp2_with(go_at_call 166;refine(hu1 _ (Below.refl _ _)).mono ?_;(rintro e w1 ⟨rfl,hb1⟩;obtain⟨hc1,hf1⟩:=bcell hb1;have hz1:=hb1.size;try simp at hz1;try have hy1:=Nat.lt_of_succ_le hz1;try have hx1:=Nat.lt_of_succ_lt hy1;try have hw1:=Nat.lt_of_succ_lt hx1));go_ret;exact⟨ret_bool HM.out.symm,hB.trans (hb1.mono hB.size)⟩
          · rw[hx]at HM hu1
            clear hx;go_wp2_with(go_at_call 166;first|(refine(hu2 _ hb1).mono ?_;(rintro e w2 ⟨rfl,hb2⟩;obtain⟨hc2,hf2⟩:=bcell hb2;have hz2:=hb2.size;try simp at hz2;try have hy2:=Nat.lt_of_succ_le hz2;try have hx2:=Nat.lt_of_succ_lt hy2;try have hw2:=Nat.lt_of_succ_lt hx2))|(refine(hu1 _ (Below.refl _ _)).mono ?_;(rintro e w1 ⟨rfl,hb1⟩;obtain⟨hc1,hf1⟩:=bcell hb1;have hz1:=hb1.size;try simp at hz1;try have hy1:=Nat.lt_of_succ_le hz1;try have hx1:=Nat.lt_of_succ_lt hy1;try have hw1:=Nat.lt_of_succ_lt hx1)));go_ret;exact⟨ret_bool HM.out.symm,(hB.trans (hb1.mono hB.size)).trans (hb2.mono ZO)⟩
end Go.Proofs.YtlhhfcleioikoaaGreatDoor
