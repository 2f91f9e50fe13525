/- graph.Joined of any program: whether it is typed and joined. -/
import Derived.Test.YtlhhfcleioikoaaGreatDoorJoinP
namespace Go.Proofs.YtlhhfcleioikoaaGreatDoor
open Go.RowKit
set_option maxRecDepth 100000
theorem joinedErr_calls{W w:World}{fv:Value}{F:PFunc}(hU:Uni W)(hF:FnV W W.heap.size fv F)(hW:Below W.heap.size W w)(hS:Small F)(hT:typedP F=true)(hB:Bnd F) :
 Calls Tryz.prog 101 #[fv] w fun e w'=>e=.returned (.int .i64 (errOf (joinedB F)))∧Below w.heap.size w w':=by
 have hr:=fun(w:World) (h:Below W.heap.size W w)=>right_calls hU hF h hS
 have hj:=fun(w:World) (h:Below W.heap.size W w)=>joined_calls hF h hT hB
 rw[hT]at hr;have hWs:=hW.size;obtain⟨A0,c0,A1,c1,A2,c2,rfl,-⟩:=id hF.open_;clear hT;obtain⟨J,hJ⟩:∃J,joinedB F=J:=⟨_,rfl⟩;rw[hJ]at hj ⊢;clear hJ;cases J
 · replace hj:∀w,Below W.heap.size W w→Calls Tryz.prog 126 _ w _:=hj
   go_enter Tryz.func101,Tryz.ntmps101;go_wp2_with(first|(go_at_call 84;refine(hr _ BL).mono ?_;(rintro e w1 ⟨rfl,hb1⟩;obtain⟨hc1,hf1⟩:=bcell hb1;have hz1:=hb1.size;try simp at hz1;try have hy1:=Nat.lt_of_succ_le hz1;try have hx1:=Nat.lt_of_succ_lt hy1;try have hw1:=Nat.lt_of_succ_lt hx1))|(go_at_call 126;refine(hj _ BL).mono ?_;(rintro e w2 ⟨rfl,hb2⟩;obtain⟨hc2,hf2⟩:=bcell hb2;have hz2:=hb2.size;try simp at hz2;try have hy2:=Nat.lt_of_succ_le hz2;try have hx2:=Nat.lt_of_succ_lt hy2;try have hw2:=Nat.lt_of_succ_lt hx2)));go_ret;exact⟨rfl,BL⟩
 · go_enter Tryz.func101,Tryz.ntmps101
   go_wp2_with(first|(go_at_call 84;refine(hr _ BL).mono ?_;(rintro e w1 ⟨rfl,hb1⟩;obtain⟨hc1,hf1⟩:=bcell hb1;have hz1:=hb1.size;try simp at hz1;try have hy1:=Nat.lt_of_succ_le hz1;try have hx1:=Nat.lt_of_succ_lt hy1;try have hw1:=Nat.lt_of_succ_lt hx1))|(go_at_call 126;refine(hj _ BL).mono ?_;(rintro e w2 ⟨rfl,hb2⟩;obtain⟨hc2,hf2⟩:=bcell hb2;have hz2:=hb2.size;try simp at hz2;try have hy2:=Nat.lt_of_succ_le hz2;try have hx2:=Nat.lt_of_succ_lt hy2;try have hw2:=Nat.lt_of_succ_lt hx2)));go_ret;exact⟨rfl,BL⟩
theorem joinedNo_calls{W w:World}{fv:Value}{F:PFunc}(hU:Uni W)(hF:FnV W W.heap.size fv F)(hW:Below W.heap.size W w)(hS:Small F)(hT:typedP F=false) :
 Calls Tryz.prog 101 #[fv] w fun e w'=>e=.returned (.int .i64 3)∧Below w.heap.size w w':=by
 have hr:=fun(w:World) (h:Below W.heap.size W w)=>right_calls hU hF h hS
 rw[hT]at hr;have hWs:=hW.size;obtain⟨A0,c0,A1,c1,A2,c2,rfl,-⟩:=id hF.open_;clear hT;go_enter Tryz.func101,Tryz.ntmps101;go_wp2_with(go_at_call 84;refine(hr _ BL).mono ?_;(rintro e w1 ⟨rfl,hb1⟩;obtain⟨hc1,hf1⟩:=bcell hb1;have hz1:=hb1.size;try simp at hz1;try have hy1:=Nat.lt_of_succ_le hz1;try have hx1:=Nat.lt_of_succ_lt hy1;try have hw1:=Nat.lt_of_succ_lt hx1));go_ret;exact⟨rfl,BL⟩
def joinB(F:PFunc):Bool:=typedP F&&joinedB F
theorem graphJoined_calls{W w:World}{fv:Value}{F:PFunc}(hU:Uni W)(hF:FnV W W.heap.size fv F)(hW:Below W.heap.size W w)(hS:Small F)(hB:Bnd F) :
 Calls Tryz.prog 101 #[fv] w fun e w'=>e=.returned (.int .i64 (errOf (joinB F)))∧Below w.heap.size w w':=by
 cases hT:typedP F
 · have:=joinedNo_calls hU hF hW hS hT
   rw[show joinB F=false by rw[joinB,hT];rfl];exact this
 · have:=joinedErr_calls hU hF hW hS hT hB
   rw[show joinB F=joinedB F by rw[joinB,hT];rfl];exact this
end Go.Proofs.YtlhhfcleioikoaaGreatDoor
