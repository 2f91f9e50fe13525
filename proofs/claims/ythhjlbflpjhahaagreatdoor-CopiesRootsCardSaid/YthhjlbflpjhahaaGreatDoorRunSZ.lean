/- The document's run (checkreinref08): a state as plain data, a state in memory; the walks of end and place. -/
import Derived.Test.YthhjlbflpjhahaaGreatDoorSlcZ
import Derived.Test.YthhjlbflpjhahaaGreatDoorLeafQZ
import Derived.WalkKit
import Derived.BigQuiet
import Derived.Deep.QuietTactic
import Derived.Test.YthhjlbflpjhahaaGreatDoorSchZ
import Derived.Test.YthhjlbflpjhahaaGreatDoorRefRZ
import Derived.Deep.DeepCutAuto
namespace Go.Proofs.YthhjlbflpjhahaaGreatDoor
open Go.RowKit
set_option maxRecDepth 100000
structure RSt where
 ints:List Int
 bools:List Bool
 arrs:List Int
 rows:List (List Int)
 block:Nat
 pc:Nat
 ending:Int
 value:Int
 trap:Int
 trace:List Int
 steps:Int
 checks:List Int
 ended:Bool
def RSt.endW(s:RSt)(e:Int):RSt:={ s with ending:=e,ended:=true }
def RSt.placeB(s:RSt)(a i:Int):Bool:=decide (0≤a)&&decide (a<(s.rows.length:Int))&&decide (0≤i)&&decide (i<((s.rows.getD a.toNat []).length:Int))
def YbH(x0 x1 x2:Value)(gi gb ga n:Nat)(vr vt:Value)(s:RSt):Array Value:=
 #[x0,x1,x2,.slice (some ⟨gi,0,none⟩) n n,.slice (some ⟨gb,0,none⟩) n n,.slice (some ⟨ga,0,none⟩) n n,vr,.int .i64 s.block,.int .i64 s.pc,.int .i64 s.ending,.int .i64 s.value,.int .i64 s.trap,vt,.int .i64 s.steps,
   .int .i64 (ith s.checks 0),.int .i64 (ith s.checks 1),.int .i64 (ith s.checks 2),.int .i64 (ith s.checks 3),.int .i64 (ith s.checks 4),.int .i64 (ith s.checks 5),.int .i64 (ith s.checks 6),.int .i64 (ith s.checks 7),.bool s.ended]
structure RunO (w:World) (D:Nat→Prop) (x0 x1 x2:Value) (nb gi gb ga n:Nat) (vr vt:Value) (vrs:List Value) (s:RSt):Prop where
 box:BoxAt w nb (YbH x0 x1 x2 gi gb ga n vr vt s) 74
 bs:¬D nb
 di:¬D gi
 db:¬D gb
 da:¬D ga
 dr:∀k,vr.ownBlock=some k→¬D k
 dt:∀k,vt.ownBlock=some k→¬D k
 dv:∀(i:Nat) (v:Value) (k:Nat),vrs[i]?=some v→v.ownBlock=some k→¬D k
 ints:w.ownsRow 0 2 1 (.slice (some ⟨gi,0,none⟩) n n) n (s.ints.map (Value.int .i64))
 bools:w.ownsRow 0 4 1 (.slice (some ⟨gb,0,none⟩) n n) n (s.bools.map Value.bool)
 arrs:w.ownsRow 0 3 1 (.slice (some ⟨ga,0,none⟩) n n) n (s.arrs.map (Value.int .i64))
 arr:w.ownsRow 0 44 1 vr s.rows.length vrs
 rows:∀(i:Nat) (v:Value),vrs[i]?=some v→w.ownsRow 0 2 1 v (s.rows.getD i []).length ((s.rows.getD i []).map (Value.int .i64))
 apart:∀(i j:Nat) (vi vj:Value) (b:Nat),i≠j→vrs[i]?=some vi→vrs[j]?=some vj→vi.ownBlock=some b→vj.ownBlock≠some b
 apartI:∀(i:Nat) (v:Value),vrs[i]?=some v→v.ownBlock≠some gi
 tr:w.ownsRow 0 2 1 vt s.trace.length (s.trace.map (Value.int .i64))
 trI:vt.ownBlock≠some gi
 trR:∀(i:Nat) (v:Value) (b:Nat),vrs[i]?=some v→v.ownBlock=some b→vt.ownBlock≠some b
theorem Ydr{w:World}{B e n:Nat}{v:Value}{xs:List Value}(h:w.ownsRow B e 1 v n xs)(hn:1≤n):∃g cap,v=.slice (some ⟨g,0,none⟩) n cap∧g<w.heap.size∧n≤cap:=by
 obtain⟨m,rfl⟩:∃m,n=m+1:=⟨n-1,ZO⟩;obtain⟨g,cap,rfl,_,h2,h3,_⟩:=YdM h;exact⟨g,cap,rfl,h2,h3⟩
section
variable {w w':World} {D:Nat→Prop} {nb gi gb ga n:Nat} {x0 x1 x2 vr vt:Value} {vrs:List Value} {s:RSt}
theorem RunO.below(h:RunO w D x0 x1 x2 nb gi gb ga n vr vt vrs s)(hb:Below w.heap.size w w'):RunO w' D x0 x1 x2 nb gi gb ga n vr vt vrs s:=
 ⟨h.box.below hb h.box.lt,h.bs,h.di,h.db,h.da,h.dr,h.dt,h.dv,Yl h.ints hb,Yl h.bools hb,Yl h.arrs hb,Yl h.arr hb,fun i v hv=>Yl (h.rows i v hv) hb,h.apart,h.apartI,Yl h.tr hb,h.trI,h.trR⟩
theorem RunO.setBox(h:RunO w D x0 x1 x2 nb gi gb ga n vr vt vrs s){j:Nat}{v:Value}{s':RSt}(hc:(YbH x0 x1 x2 gi gb ga n vr vt s).setIfInBounds j v=YbH x0 x1 x2 gi gb ga n vr vt s')
 (h1:s'.ints=s.ints) (h2:s'.bools=s.bools) (h3:s'.arrs=s.arrs) (h4:s'.rows=s.rows) (h5:s'.trace=s.trace):RunO (w.setCell ⟨nb,j,none⟩ v) D x0 x1 x2 nb gi gb ga n vr vt vrs s':=by
 have ho:∀{e sz m:Nat} {u:Value} {xs:List Value},e≠74→w.ownsRow 0 e sz u m xs→(w.setCell ⟨nb,j,none⟩ v).ownsRow 0 e sz u m xs:=fun he hu=>ownsRow_setCell_other hu (Yas hu h.box he) _
 refine⟨?_,h.bs,h.di,h.db,h.da,h.dr,h.dt,h.dv,?_,?_,?_,?_,?_,h.apart,h.apartI,?_,h.trI,h.trR⟩
 · rw[← hc];exact h.box.set j v
 · rw[h1];exact ho ZD h.ints
 · rw[h2];exact ho ZD h.bools
 · rw[h3];exact ho ZD h.arrs
 · rw[h4];exact ho ZD h.arr
 · rw[h4];exact fun i u hu=>ho ZD (h.rows i u hu)
 · rw[h5];exact ho ZD h.tr
theorem YbI(h:RunO w D x0 x1 x2 nb gi gb ga n vr vt vrs s)(e:Int):Calls Tryz.prog 61 #[.pointer (some ⟨nb,0,none⟩),.int .i64 e] w fun z w'=>z=.returned (.tuple #[])∧RunO w' D x0 x1 x2 nb gi gb ga n vr vt vrs (s.endW e)∧Kp D w w':=by
 have xl:=h.box.lt;have c9:=h.box.cell 9;have c22:=h.box.cell 22;have f9:=h.box.frozen 9;have f22:=h.box.frozen 22;replace c9:w.cell? ⟨nb,9,none⟩=some (.int .i64 s.ending):=c9;replace c22:w.cell? ⟨nb,22,none⟩=some (.bool s.ended):=c22;have H1:=Lh (h.setBox (j:=9) (v:=.int .i64 e) (s':={ s with ending:=e }) rfl rfl rfl rfl rfl rfl);have H2:=Lh (H1.out.setBox (j:=22) (v:=.bool true) (s':=s.endW e) rfl rfl rfl rfl rfl rfl);have HB:=Lh (((Kp.refl (D:=D) (w:=w)).setCell (p:=⟨nb,9,none⟩) h.bs (.int .i64 e)).setCell (p:=⟨nb,22,none⟩) h.bs (.bool true));clear h;go_enter Tryz.func61,Tryz.ntmps61;go_wp2;go_end0;exact⟨rfl,H2.out,HB.out⟩
set_option maxHeartbeats 2000000 in
theorem Yec(h:RunO w D x0 x1 x2 nb gi gb ga n vr vt vrs s)(a i:Int):Calls Tryz.prog 92 #[.pointer (some ⟨nb,0,none⟩),.int .i64 a,.int .i64 i] w fun z w'=>z=.returned (.bool (s.placeB a i))∧w'=w:=by
 have xl:=h.box.lt;have c6:=h.box.cell 6;replace c6:w.cell? ⟨nb,6,none⟩=some vr:=c6;obtain⟨Ar,cr,hvr⟩:=Yh h.arr;rw[hvr]at c6
 by_cases h0:0≤a
 · obtain⟨k,rfl⟩:=Int.eq_ofNat_of_zero_le h0
   by_cases h1:k<s.rows.length
   · have hk:(k:Int)<(s.rows.length:Int):=by omega
     have ha:=h.arr;rw[hvr]at ha;obtain⟨g,cap,he,hgl,-⟩:=Ydr ha ZO;cases he;obtain⟨x,hx⟩:∃x,vrs[k]?=some x:=⟨_,List.getElem?_eq_getElem (by have:=ha.1;omega)⟩;have hcx:=ha.cellAt k ZO;rw[hx]at hcx;obtain⟨Ax,cx,rfl⟩:=Yh (h.rows k x hx)
     have HF:=Lh (show s.placeB (k:Int) i=(decide (0≤i)&&decide (i<((s.rows.getD k []).length:Int))) by
      unfold RSt.placeB;rw[decide_eq_true h0,decide_eq_true hk,Int.toNat_natCast]
      rfl)
     clear h ha hx hvr;generalize (s.rows.getD k []).length=m at *
     by_cases h2:0≤i
     · by_cases h3:i<(m:Int)
       · go_enter Tryz.func92,Tryz.ntmps92
         go_wp2;go_ret;exact⟨Ya (by rw[HF.out];simp[h2,h3]),rfl⟩
       · have h4:decide (i<(m:Int))=false:=decide_eq_false h3
         go_enter Tryz.func92,Tryz.ntmps92;go_wp2;go_ret;exact⟨Ya (by rw[HF.out];simp[h2,h3]),rfl⟩
     · have h4:decide (0≤i)=false:=decide_eq_false h2
       go_enter Tryz.func92,Tryz.ntmps92;go_wp2;go_ret;exact⟨Ya (by rw[HF.out,h4];rfl),rfl⟩
   · have h2:¬(k:Int)<(s.rows.length:Int):=by omega
     have h3:decide ((k:Int)<(s.rows.length:Int))=false:=decide_eq_false h2;have h4:decide (k<s.rows.length)=false:=decide_eq_false h1;have HF:=Lh (show s.placeB (k:Int) i=false by unfold RSt.placeB;rw[h3];simp);clear h hvr;go_enter Tryz.func92,Tryz.ntmps92;go_wp2;go_ret;exact⟨Ya HF.out.symm,rfl⟩
 · have h1:decide (0≤a)=false:=decide_eq_false h0
   have HF:=Lh (show s.placeB a i=false by unfold RSt.placeB;rw[h1];simp);clear h hvr;go_enter Tryz.func92,Tryz.ntmps92;go_wp2;go_ret;exact⟨Ya HF.out.symm,rfl⟩
end
theorem YcG(x:Int):IntKind.u64.wrap x=x%18446744073709551616:=by simp[IntKind.wrap,IntKind.signed,IntKind.bits]
theorem YeY(x:Int):wrap64 (x%18446744073709551616)=wrap64 x:=by unfold wrap64;omega
theorem Ym7(a b:Int):wrap64 (IntKind.u64.wrap (IntKind.u64.wrap a+IntKind.u64.wrap b))=wrap64 (a+b):=by
 simp only[YcG];rw[YeY];unfold wrap64;omega
theorem Ym8(a b:Int):wrap64 (IntKind.u64.wrap (IntKind.u64.wrap a-IntKind.u64.wrap b))=wrap64 (a-b):=by
 simp only[YcG];rw[YeY];unfold wrap64;omega
theorem Ym9(a b:Int):wrap64 (IntKind.u64.wrap (IntKind.u64.wrap a*IntKind.u64.wrap b))=wrap64 (a*b):=by
 simp only[YcG];rw[← Int.mul_emod,YeY]
theorem Yna(a:Int):wrap64 (IntKind.u64.wrap (-IntKind.u64.wrap a))=wrap64 (-a):=by
 simp only[YcG];rw[YeY];unfold wrap64;omega
set_option maxHeartbeats 2000000 in
theorem Ynb{w:World}(a b:Int):Calls Tryz.prog 90 #[.int .i64 0,.int .i64 a,.int .i64 b] w fun e w'=>e=.returned (.int .i64 (wrap64 (a+b)))∧w'=w:=by
 go_enter Tryz.func90,Tryz.ntmps90;go_wp2;go_ret;exact⟨Yad (Ym7 a b),rfl⟩
set_option maxHeartbeats 2000000 in
theorem Ync{w:World}(a b:Int):Calls Tryz.prog 90 #[.int .i64 1,.int .i64 a,.int .i64 b] w fun e w'=>e=.returned (.int .i64 (wrap64 (a-b)))∧w'=w:=by
 go_enter Tryz.func90,Tryz.ntmps90;go_wp2;go_ret;exact⟨Yad (Ym8 a b),rfl⟩
set_option maxHeartbeats 2000000 in
theorem Ynd{w:World}(a b:Int):Calls Tryz.prog 90 #[.int .i64 2,.int .i64 a,.int .i64 b] w fun e w'=>e=.returned (.int .i64 (wrap64 (a*b)))∧w'=w:=by
 go_enter Tryz.func90,Tryz.ntmps90;go_wp2;go_ret;exact⟨Yad (Ym9 a b),rfl⟩
def Ycn(a b:Int):Int:=if b=-1 then wrap64 (-a) else wrap64 (a.tdiv b)
def Yco(a b:Int):Int:=if b=-1 then 0 else wrap64 (a-wrap64 (wrap64 (a.tdiv b)*b))
set_option maxHeartbeats 2000000 in
theorem Yil{w:World}(a b:Int)(hb:b≠0):Calls Tryz.prog 91 #[.int .i64 a,.int .i64 b] w fun e w'=>e=.returned (.tuple #[.int .i64 (Ycn a b),.int .i64 (Yco a b)])∧∃m,w'=w.drewN m:=by
 by_cases h:b=-1
 · subst h
   rw[show Ycn a (-1)=wrap64 (-a)from if_pos rfl,show Yco a (-1)=0 from if_pos rfl,← Yna a];go_enter Tryz.func91,Tryz.ntmps91;go_wp2
   go_ret2
   exact⟨rfl,0,rfl⟩
 · have h1:(b==-1)=false:=by rw[beq_eq_false_iff_ne];exact h
   have h2:(b==0)=false:=by rw[beq_eq_false_iff_ne];exact hb
   rw[show Ycn a b=wrap64 (a.tdiv b)from if_neg h,show Yco a b=wrap64 (a-wrap64 (wrap64 (a.tdiv b)*b))from if_neg h];clear h;go_enter Tryz.func91,Tryz.ntmps91;go_wp2
   go_quiet (fail)
   go_wp2
   go_ret2
   exact⟨rfl,_,rfl⟩
def YcZ(a b:Int):Bool:=!(decide (0<b)&&decide (wrap64 (9223372036854775807-b)<a))&&!(decide (b<0)&&decide (a<wrap64 (-9223372036854775808-b)))
set_option maxHeartbeats 2000000 in
theorem Yne{w:World}(a b:Int):Calls Tryz.prog 112 #[.int .i64 0,.int .i64 a,.int .i64 b] w fun e w'=>e=.returned (.bool (YcZ a b))∧∃m,w'=w.drewN m:=by
 obtain⟨m1,hm1⟩:∃m,wrap64 (9223372036854775807-b)=m:=⟨_,rfl⟩;obtain⟨m2,hm2⟩:∃m,wrap64 (-9223372036854775808-b)=m:=⟨_,rfl⟩;have HF:=Lh (show YcZ a b=(!(decide (0<b)&&decide (m1<a))&&!(decide (b<0)&&decide (a<m2))) by unfold YcZ;rw[hm1,hm2])
 by_cases h1:0<b
 · have h2:decide (0<b)=true:=decide_eq_true h1
   have h3:decide (b<0)=false:=decide_eq_false ZO
   by_cases h4:m1<a
   · go_enter Tryz.func112,Tryz.ntmps112
     go_wp2;go_ret;exact⟨Ya (by rw[HF.out,h2,decide_eq_true h4];rfl),0,rfl⟩
   · have h5:decide (m1<a)=false:=decide_eq_false h4
     go_enter Tryz.func112,Tryz.ntmps112;go_wp2;go_ret;exact⟨Ya (by rw[HF.out,h5,h3];simp),0,rfl⟩
 · have h2:decide (0<b)=false:=decide_eq_false h1
   by_cases h3:b<0
   · by_cases h4:a<m2
     · go_enter Tryz.func112,Tryz.ntmps112
       go_wp2;go_ret;exact⟨Ya (by rw[HF.out,decide_eq_true h3,decide_eq_true h4];simp),0,rfl⟩
     · have h5:decide (a<m2)=false:=decide_eq_false h4
       go_enter Tryz.func112,Tryz.ntmps112;go_wp2;go_ret;exact⟨Ya (by rw[HF.out,h5,h2];simp),0,rfl⟩
   · have h4:decide (b<0)=false:=decide_eq_false h3
     go_enter Tryz.func112,Tryz.ntmps112;go_wp2;go_ret;exact⟨Ya (by rw[HF.out,h2,h4];rfl),0,rfl⟩
def Yc0(a b:Int):Bool:=!(decide (b<0)&&decide (wrap64 (9223372036854775807+b)<a))&&!(decide (0<b)&&decide (a<wrap64 (-9223372036854775808+b)))
set_option maxHeartbeats 2000000 in
theorem Ynf{w:World}(a b:Int):Calls Tryz.prog 112 #[.int .i64 1,.int .i64 a,.int .i64 b] w fun e w'=>e=.returned (.bool (Yc0 a b))∧∃m,w'=w.drewN m:=by
 obtain⟨m1,hm1⟩:∃m,wrap64 (9223372036854775807+b)=m:=⟨_,rfl⟩;obtain⟨m2,hm2⟩:∃m,wrap64 (-9223372036854775808+b)=m:=⟨_,rfl⟩;have HF:=Lh (show Yc0 a b=(!(decide (b<0)&&decide (m1<a))&&!(decide (0<b)&&decide (a<m2))) by unfold Yc0;rw[hm1,hm2])
 by_cases h1:b<0
 · have h2:decide (b<0)=true:=decide_eq_true h1
   have h3:decide (0<b)=false:=decide_eq_false ZO
   by_cases h4:m1<a
   · go_enter Tryz.func112,Tryz.ntmps112
     go_wp2;go_ret;exact⟨Ya (by rw[HF.out,h2,decide_eq_true h4];rfl),0,rfl⟩
   · have h5:decide (m1<a)=false:=decide_eq_false h4
     go_enter Tryz.func112,Tryz.ntmps112;go_wp2;go_ret;exact⟨Ya (by rw[HF.out,h5,h3];simp),0,rfl⟩
 · have h2:decide (b<0)=false:=decide_eq_false h1
   by_cases h3:0<b
   · by_cases h4:a<m2
     · go_enter Tryz.func112,Tryz.ntmps112
       go_wp2;go_ret;exact⟨Ya (by rw[HF.out,decide_eq_true h3,decide_eq_true h4];simp),0,rfl⟩
     · have h5:decide (a<m2)=false:=decide_eq_false h4
       go_enter Tryz.func112,Tryz.ntmps112;go_wp2;go_ret;exact⟨Ya (by rw[HF.out,h5,h2];simp),0,rfl⟩
   · have h4:decide (0<b)=false:=decide_eq_false h3
     go_enter Tryz.func112,Tryz.ntmps112;go_wp2;go_ret;exact⟨Ya (by rw[HF.out,h2,h4];rfl),0,rfl⟩
def I64(x:Int):Prop:=-9223372036854775808≤x∧x≤9223372036854775807
def YbJ(a:Int):Int:=if a<0 then -a else a
def YbV(a b:Int):Bool:=a==0||b==0||decide (YbJ a≤(if decide (a<0)=decide (b<0) then 9223372036854775807 else 9223372036854775808:Int).tdiv (YbJ b))
theorem Ygi{a:Int}(h:I64 a)(h0:¬a<0):IntKind.u64.wrap a=a:=by unfold I64 at h;rw[YcG];omega
theorem Ygj{a:Int}(h:I64 a)(h0:a<0):IntKind.u64.wrap (-IntKind.u64.wrap a)=-a:=by unfold I64 at h;rw[YcG,YcG];omega
theorem Yng{m y:Int}(h0:0≤m)(hm:m≤9223372036854775808)(hy:0<y):IntKind.u64.wrap (m.tdiv y)=m.tdiv y:=by
 rw[YcG,Int.tdiv_eq_ediv_of_nonneg h0];have h1:0≤m / y:=Int.ediv_nonneg h0 ZO;have h2:m / y≤m:=Int.ediv_le_self y h0;omega
set_option maxHeartbeats 2000000 in
theorem Ynh{w:World}(a b:Int)(ha:I64 a)(hb:I64 b):Calls Tryz.prog 112 #[.int .i64 2,.int .i64 a,.int .i64 b] w fun e w'=>e=.returned (.bool (YbV a b))∧∃m,w'=w.drewN m:=by
 by_cases a0:a=0
 · subst a0
   have HF:=Lh (show YbV 0 b=true by unfold YbV;simp);go_enter Tryz.func112,Tryz.ntmps112;go_wp2;go_ret;exact⟨Ya HF.out.symm,0,rfl⟩
 have a1:(a==0)=false:=by rw[beq_eq_false_iff_ne];exact a0
 by_cases b0:b=0
 · subst b0
   have HF:=Lh (show YbV a 0=true by unfold YbV;simp);go_enter Tryz.func112,Tryz.ntmps112;go_wp2;go_ret;exact⟨Ya HF.out.symm,0,rfl⟩
 have b1:(b==0)=false:=by rw[beq_eq_false_iff_ne];exact b0
 have HF:=Lh (show YbV a b=decide (YbJ a≤(if decide (a<0)=decide (b<0) then 9223372036854775807 else 9223372036854775808:Int).tdiv (YbJ b)) by unfold YbV;rw[a1,b1];rfl);have qq:∀m y:Int,(m=9223372036854775807∨m=9223372036854775808)→0<y→IntKind.u64.wrap (m.tdiv y)=m.tdiv y:=fun m y hm hy=>Yng ZO ZO hy
 by_cases an:a<0
 · have ua:=Ygj ha an
   by_cases bn:b<0
   · have ub:=Ygj hb bn
     have nb:(-b==0)=false:=by rw[beq_eq_false_iff_ne];omega
     have q1:=qq _ (-b) (.inl rfl) ZO;rw[Int.tdiv_neg]at q1;rw[YbJ,YbJ,if_pos an,if_pos bn,decide_eq_true an,decide_eq_true bn,if_pos rfl,Int.tdiv_neg,← q1]at HF;clear ha hb a0 b0 q1 qq;go_enter Tryz.func112,Tryz.ntmps112;go_wp2;go_ret;exact⟨Ya HF.out.symm,0,rfl⟩
   · have ub:=Ygi hb bn
     rw[YbJ,YbJ,if_pos an,if_neg bn,decide_eq_true an,decide_eq_false bn,if_neg ZS,Int.tdiv_eq_ediv_of_nonneg ZD]at HF;have bd:decide (b<0)=false:=decide_eq_false bn;clear ha hb a0 qq;go_enter Tryz.func112,Tryz.ntmps112;go_wp2;go_ret;exact⟨Ya HF.out.symm,0,rfl⟩
 · have ua:=Ygi ha an
   have ad:decide (a<0)=false:=decide_eq_false an
   by_cases bn:b<0
   · have ub:=Ygj hb bn
     have nb:(-b==0)=false:=by rw[beq_eq_false_iff_ne];omega
     have q1:=qq _ (-b) (.inr rfl) ZO;rw[Int.tdiv_neg]at q1;rw[YbJ,YbJ,if_neg an,if_pos bn,decide_eq_false an,decide_eq_true bn,if_neg ZS,Int.tdiv_neg,← q1]at HF;clear ha hb a0 b0 q1 qq;go_enter Tryz.func112,Tryz.ntmps112;go_wp2;go_ret;exact⟨Ya HF.out.symm,0,rfl⟩
   · have ub:=Ygi hb bn
     rw[YbJ,YbJ,if_neg an,if_neg bn,decide_eq_false an,decide_eq_false bn,if_pos rfl,Int.tdiv_eq_ediv_of_nonneg ZD]at HF;have bd:decide (b<0)=false:=decide_eq_false bn;clear ha hb a0 qq;go_enter Tryz.func112,Tryz.ntmps112;go_wp2;go_ret;exact⟨Ya HF.out.symm,0,rfl⟩
def RSt.int(s:RSt)(v:Int):Int:=ith s.ints v.toNat
def RSt.boo(s:RSt)(v:Int):Bool:=s.bools.getD v.toNat false
def RSt.arr(s:RSt)(v:Int):Int:=ith s.arrs v.toNat
def RSt.row(s:RSt)(a:Int):List Int:=s.rows.getD a.toNat []
def RSt.setI(s:RSt)(d x:Int):RSt:={ s with ints:=s.ints.set d.toNat x }
def RSt.setB(s:RSt)(d:Int)(x:Bool):RSt:={ s with bools:=s.bools.set d.toNat x }
def RSt.setA(s:RSt)(d x:Int):RSt:={ s with arrs:=s.arrs.set d.toNat x }
def RSt.setR(s:RSt)(a i x:Int):RSt:={ s with rows:=s.rows.set a.toNat ((s.row a).set i.toNat x) }
def RSt.addR(s:RSt)(l:List Int):RSt:={ s with rows:=s.rows++[l] }
def RSt.addT(s:RSt)(x:Int):RSt:={ s with trace:=s.trace++[x] }
def RSt.tick(s:RSt)(t:Nat):RSt:={ s with checks:=s.checks.set t (wrap64 (ith s.checks t+1)) }
def Ybd(n:Nat)(s:RSt)(x:PInst):Bool:=match n with
 |18=>s.placeB (s.arr (ith x.args 0)) (s.int (ith x.args 1))
 |19=>decide (0≤s.arr (ith x.args 0))
 |20=>!(s.int (ith x.args 0)==0)
 |21=>YcZ (s.int (ith x.args 0)) (s.int (ith x.args 1))
 |22=>Yc0 (s.int (ith x.args 0)) (s.int (ith x.args 1))
 |23=>YbV (s.int (ith x.args 0)) (s.int (ith x.args 1))
 |_=>decide (0≤s.int (ith x.args 0))&&decide (s.int (ith x.args 0)≤64)
def RSt.trapW(s:RSt)(t:Int):RSt:=({ s with trap:=t }:RSt).endW 1
def Ybe(t:Nat)(ok:Bool)(s:RSt):RSt:=if ok=true then s.tick t else(s.tick t).trapW t
def instN(n:Nat)(s:RSt)(x:PInst):RSt:=
 let a:=s.int (ith x.args 0)
 let b:=s.int (ith x.args 1)
 let p:=s.boo (ith x.args 0)
 let q:=s.boo (ith x.args 1)
 let r:=s.arr (ith x.args 0)
 match n with
 |0=>s.setI x.dst x.num
 |1=>((s.setI x.dst a).setB x.dst p).setA x.dst r
 |2=>s.setI x.dst (wrap64 (a+b))
 |3=>s.setI x.dst (wrap64 (a-b))
 |4=>s.setI x.dst (wrap64 (a*b))
 |5=>if b=0 then s.endW 2 else s.setI x.dst (Ycn a b)
 |6=>if b=0 then s.endW 2 else s.setI x.dst (Yco a b)
 |7=>s.setB x.dst (a==b)
 |8=>s.setB x.dst (decide (a<b))
 |9=>s.setB x.dst (decide (a≤b))
 |10=>s.setB x.dst (!p)
 |11=>s.setB x.dst (p&&q)
 |12=>if r<0 then s.endW 2 else s.setI x.dst (s.row r).length
 |13=>if s.placeB r b=true then s.setI x.dst (ith (s.row r) b.toNat) else s.endW 2
 |14=>if s.placeB r b=true then s.setR r b (s.int (ith x.args 2)) else s.endW 2
 |15=>if a<0∨64<a then s.endW 2 else if 32≤s.rows.length then s.endW 3 else(s.addR (List.replicate a.toNat 0)).setA x.dst s.rows.length
 |16=>s.setA x.dst (-1)
 |17=>if 4096≤s.trace.length then s.endW 3 else s.addT a
 |25=>((s.setI x.dst a).setB x.dst p).setA x.dst r
 |26=>((s.setI x.dst a).setB x.dst p).setA x.dst r
 |n=>Ybe (n-17) (Ybd n s x) s
def Yca(s:RSt)(x:PInst):RSt:=instN x.op.toNat s x
def Yt:List Int→List Int→Int→Int
 |f::fs,a::l,b=>if f=b then a else Yt fs l b
 |_,_,_=>-1
def Yu(ps:List PPhi)(b:Int):List Int:=ps.map fun p=>Yt p.froms p.args b
def YQ(o:RSt):List PPhi→List Int→RSt→RSt
 |p::ps,g::gs,s=>YQ o ps gs (((s.setI p.dst (o.int g)).setB p.dst (o.boo g)).setA p.dst (o.arr g))
 |_,_,s=>s
def RSt.goTo(s:RSt)(dest:Nat):RSt:={ s with block:=dest,pc:=0 }
def YM(F:PFunc)(dest:Nat)(s:RSt):RSt:=
 if(Yu (F.blk dest).phis s.block).any (fun g=>decide (g<0))=true then(s.goTo dest).endW 2 else(YQ s (F.blk dest).phis (Yu (F.blk dest).phis s.block) s).goTo dest
def Yx(F:PFunc)(s:RSt):RSt:=
 let s1:RSt:={ s with steps:=wrap64 (s.steps+1) }
 if s.pc<(F.blk s.block).insts.length then Yca { s1 with pc:=s.pc+1 } ((F.blk s.block).inst s.pc)
 else if(F.blk s.block).term.kind=2 then({ s1 with value:=s1.int (F.blk s.block).term.var }:RSt).endW 0
 else if(F.blk s.block).term.kind=0∨s1.boo (F.blk s.block).term.var=true then YM F (F.blk s.block).term.t0.toNat s1
 else YM F (F.blk s.block).term.t1.toNat s1
def Yby(F:PFunc)(s:RSt):Int:=
 if s.pc<(F.blk s.block).insts.length∨(F.blk s.block).term.kind=2 then -1 else if(F.blk s.block).term.kind=0∨s.bools.getD (F.blk s.block).term.var.toNat false=true then(F.blk s.block).term.t0 else(F.blk s.block).term.t1
def Yf(F:PFunc):Nat→RSt→RSt
 |0,s=>s
 |k+1,s=>if s.ended=true then s else Yf F k (Yx F s)
section
variable {w w':World} {D:Nat→Prop} {nb gi gb ga n:Nat} {x0 x1 x2 vr vt:Value} {vrs:List Value} {s:RSt}
theorem RunO.lens(h:RunO w D x0 x1 x2 nb gi gb ga n vr vt vrs s):s.ints.length=n∧s.bools.length=n∧s.arrs.length=n∧vrs.length=s.rows.length:=
 ⟨by simpa using h.ints.1,by simpa using h.bools.1,by simpa using h.arrs.1,by simpa using h.arr.1⟩
theorem Yn{w:World}{B e g n cap:Nat}{t:List Int}(h:w.ownsRow B e 1 (.slice (some ⟨g,0,none⟩) n cap) n (t.map (Value.int .i64))){i:Nat}(hi:i<n):w.cell? ⟨g,i,none⟩=some (.int .i64 (ith t i)):=by
 have hl:t.length=n:=by simpa using h.1
 rw[h.cellAt i ZO,List.getElem?_map,Yaa ZO];rfl
theorem Y9{w:World}{B e g n cap:Nat}{t:List Bool}(h:w.ownsRow B e 1 (.slice (some ⟨g,0,none⟩) n cap) n (t.map Value.bool)){i:Nat}(hi:i<n):w.cell? ⟨g,i,none⟩=some (.bool (t.getD i false)):=by
 have hl:t.length=n:=by simpa using h.1
 rw[h.cellAt i ZO];simp[List.getD,hl,hi]
theorem RunO.setI(h:RunO w D x0 x1 x2 nb gi gb ga n vr vt vrs s){j:Nat}{d:Int}(hd:d=j)(x:Int):RunO (w.setCell ⟨gi,j,none⟩ (.int .i64 x)) D x0 x1 x2 nb gi gb ga n vr vt vrs (s.setI d x):=by
 subst hd;have hob:=Yas h.ints h.box ZD;refine⟨h.box.other (p:=⟨gi,j,none⟩) (fun e=>hob (by simpa[Value.ownBlock]using e)) _,h.bs,h.di,h.db,h.da,h.dr,h.dt,h.dv,?_,?_,?_,?_,?_,h.apart,h.apartI,?_,h.trI,h.trR⟩
 · have:=(h.ints.stored j (.int .i64 x)).1
   unfold RSt.setI;simpa[List.map_set]using this
 · exact ownsRow_setCell_other h.bools (a:=⟨gi,j,none⟩) (Yp h.ints h.bools ZD rfl) _
 · exact ownsRow_setCell_other h.arrs (a:=⟨gi,j,none⟩) (Yp h.ints h.arrs ZD rfl) _
 · exact ownsRow_setCell_other h.arr (a:=⟨gi,j,none⟩) (Yp h.ints h.arr ZD rfl) _
 · exact fun i v hv=>ownsRow_setCell_other (h.rows i v hv) (a:=⟨gi,j,none⟩) (h.apartI i v hv) _
 · exact ownsRow_setCell_other h.tr (a:=⟨gi,j,none⟩) h.trI _
theorem RunO.setB(h:RunO w D x0 x1 x2 nb gi gb ga n vr vt vrs s){j:Nat}{d:Int}(hd:d=j)(x:Bool):RunO (w.setCell ⟨gb,j,none⟩ (.bool x)) D x0 x1 x2 nb gi gb ga n vr vt vrs (s.setB d x):=by
 subst hd;have hob:=Yas h.bools h.box ZD;refine⟨h.box.other (p:=⟨gb,j,none⟩) (fun e=>hob (by simpa[Value.ownBlock]using e)) _,h.bs,h.di,h.db,h.da,h.dr,h.dt,h.dv,?_,?_,?_,?_,?_,h.apart,h.apartI,?_,h.trI,h.trR⟩
 · exact ownsRow_setCell_other h.ints (a:=⟨gb,j,none⟩) (Yp h.bools h.ints ZD rfl) _
 · have:=(h.bools.stored j (.bool x)).1
   unfold RSt.setB;simpa[List.map_set]using this
 · exact ownsRow_setCell_other h.arrs (a:=⟨gb,j,none⟩) (Yp h.bools h.arrs ZD rfl) _
 · exact ownsRow_setCell_other h.arr (a:=⟨gb,j,none⟩) (Yp h.bools h.arr ZD rfl) _
 · exact fun i v hv=>ownsRow_setCell_other (h.rows i v hv) (a:=⟨gb,j,none⟩) (Yp h.bools (h.rows i v hv) ZD rfl) _
 · exact ownsRow_setCell_other h.tr (a:=⟨gb,j,none⟩) (Yp h.bools h.tr ZD rfl) _
theorem RunO.setA(h:RunO w D x0 x1 x2 nb gi gb ga n vr vt vrs s){j:Nat}{d:Int}(hd:d=j)(x:Int):RunO (w.setCell ⟨ga,j,none⟩ (.int .i64 x)) D x0 x1 x2 nb gi gb ga n vr vt vrs (s.setA d x):=by
 subst hd;have hob:=Yas h.arrs h.box ZD;refine⟨h.box.other (p:=⟨ga,j,none⟩) (fun e=>hob (by simpa[Value.ownBlock]using e)) _,h.bs,h.di,h.db,h.da,h.dr,h.dt,h.dv,?_,?_,?_,?_,?_,h.apart,h.apartI,?_,h.trI,h.trR⟩
 · exact ownsRow_setCell_other h.ints (a:=⟨ga,j,none⟩) (Yp h.arrs h.ints ZD rfl) _
 · exact ownsRow_setCell_other h.bools (a:=⟨ga,j,none⟩) (Yp h.arrs h.bools ZD rfl) _
 · have:=(h.arrs.stored j (.int .i64 x)).1
   unfold RSt.setA;simpa[List.map_set]using this
 · exact ownsRow_setCell_other h.arr (a:=⟨ga,j,none⟩) (Yp h.arrs h.arr ZD rfl) _
 · exact fun i v hv=>ownsRow_setCell_other (h.rows i v hv) (a:=⟨ga,j,none⟩) (Yp h.arrs (h.rows i v hv) ZD rfl) _
 · exact ownsRow_setCell_other h.tr (a:=⟨ga,j,none⟩) (Yp h.arrs h.tr ZD rfl) _
theorem RunO.setR(h:RunO w D x0 x1 x2 nb gi gb ga n vr vt vrs s){k j:Nat}{v:Value}{g:Nat}(hv:vrs[k]?=some v)(hg:v.ownBlock=some g){a i:Int}(ha:a=k)(hi:i=j)(x:Int) :
 RunO (w.setCell ⟨g,j,none⟩ (.int .i64 x)) D x0 x1 x2 nb gi gb ga n vr vt vrs (s.setR a i x):=by
 subst ha hi;have hr:=h.rows k v hv;have hl:=h.lens.2.2.2;have hk:k<s.rows.length:=by rw[← hl];exact(List.getElem?_eq_some_iff.1 hv).1
 have hob:=Yas hr h.box ZD;have hne:∀{e sz m:Nat} {u:Value} {xs:List Value},e≠2→w.ownsRow 0 e sz u m xs→(w.setCell ⟨g,j,none⟩ (.int .i64 x)).ownsRow 0 e sz u m xs:=fun he hu=>ownsRow_setCell_other hu (a:=⟨g,j,none⟩) (Yp hr hu (Ne.symm he) hg) _
 refine⟨h.box.other (p:=⟨g,j,none⟩) (fun e=>hob (by rw[hg];exact congrArg some e)) _,h.bs,h.di,h.db,h.da,h.dr,h.dt,h.dv,?_,hne ZD h.bools,hne ZD h.arrs,?_,?_,h.apart,h.apartI,?_,h.trI,h.trR⟩
 · refine ownsRow_setCell_other h.ints (a:=⟨g,j,none⟩) (fun e=>h.apartI k v hv ?_) _
   rw[hg,← e];rfl
 · have:=hne ZD h.arr
   unfold RSt.setR;simpa using this
 · intro i' v' hv'
   unfold RSt.setR RSt.row;simp only[Int.toNat_natCast]
   by_cases e:k=i'
   · subst e
     rw[hv]at hv';cases hv';obtain⟨A,c,rfl⟩:=Yh hr;obtain⟨g',rfl⟩:∃g',A=some ⟨g',0,none⟩:=by
      rcases hr.2 with⟨h1,-⟩|⟨g',cap,cur,h1,-⟩
      · injection h1 with e1 _ _
        subst e1;simp[Value.ownBlock]at hg
      · injection h1 with e1 _ _
        subst e1;exact⟨g',rfl⟩
     obtain rfl:g'=g:=by simpa[Value.ownBlock]using hg
     have:=(hr.stored j (.int .i64 x)).1;simp only[List.getD_eq_getElem?_getD,List.getElem?_set_self hk,Option.getD_some,List.length_set];simpa[List.map_set]using this
   · simp only[List.getD_eq_getElem?_getD,List.getElem?_set_ne e]
     exact ownsRow_setCell_other (by simpa using h.rows i' v' hv') (a:=⟨g,j,none⟩) (h.apart k i' v v' g e hv hv' hg) _
 · exact ownsRow_setCell_other h.tr (a:=⟨g,j,none⟩) (h.trR k v g hv hg) _
theorem RunO.addT(h:RunO w D x0 x1 x2 nb gi gb ga n vr vt vrs s)(hD:∀k,D k→k<w.heap.size){o:Obj}{w3:World}{vt':Value}{x:Int}(hown:w3.ownsRow 0 2 1 vt' (s.trace.length+1) (s.trace.map (Value.int .i64)++[.int .i64 x]))
 (hg:(w.alloc o).grownBy w3 vt.ownBlock) (hfr:∀k,vt'.ownBlock=some k→vt.ownBlock=some k∨w.heap.size<k):RunO (w3.setCell ⟨nb,12,none⟩ vt') D x0 x1 x2 nb gi gb ga n vr vt' vrs (s.addT x):=by
 have ha:Below w.heap.size w (w.alloc o):=(Br _ _).alloc (Nr _) _;have hb3:BoxAt w3 nb (YbH x0 x1 x2 gi gb ga n vr vt s) 74:=(h.box.alloc o).grown hg (Yas h.tr h.box ZD);have hk:∀{e sz m:Nat} {u:Value} {xs:List Value},(∀g,u.ownBlock=some g→vt.ownBlock≠some g)→e≠74→w.ownsRow 0 e sz u m xs→(w3.setCell ⟨nb,12,none⟩ vt').ownsRow 0 e sz u m xs:=fun hne he hu=>by
  have h3:=YaD hu ha hg hne;exact ownsRow_setCell_other h3 (Yas h3 hb3 he) _
 have hi:∀g,(Value.slice (some ⟨gi,0,none⟩) n n).ownBlock=some g→vt.ownBlock≠some g:=fun g e=>by
  simp only[Value.ownBlock,Option.some.injEq]at e;subst e;exact h.trI
 have hdt:∀k,vt'.ownBlock=some k→¬D k:=fun k e hd=>by
  rcases hfr k e with h1|h1
  · exact h.dt k h1 hd
  · have:=hD k hd
    omega
 refine⟨?_,h.bs,h.di,h.db,h.da,h.dr,hdt,h.dv,hk hi ZD h.ints,hk (fun g e=>Yp h.bools h.tr ZD e) ZD h.bools,hk (fun g e=>Yp h.arrs h.tr ZD e) ZD h.arrs,
  hk (fun g e=>Yp h.arr h.tr ZD e) ZD h.arr,fun i v hv=>hk (fun g e=>h.trR i v g hv e) ZD (h.rows i v hv),h.apart,h.apartI,?_,?_,?_⟩
 · exact hb3.set 12 vt'
 · have:=ownsRow_setCell_other hown (Yas hown hb3 ZD) (a:=⟨nb,12,none⟩) vt'
   unfold RSt.addT;simpa using this
 · intro e
   rcases hfr gi e with h1|h1
   · exact h.trI h1
   · have:=(h.ints.lt gi rfl).2
     omega
 · intro i v b hv hb e
   rcases hfr b e with h1|h1
   · exact h.trR i v b hv hb h1
   · have:=(Yv (h.rows i v hv) hb).2
     omega
theorem RunO.addR(h:RunO w D x0 x1 x2 nb gi gb ga n vr vt vrs s)(hD:∀k,D k→k<w.heap.size){o:Obj}{w2 w3:World}{vr' vn:Value}{l:List Int}(hw2:Below w.heap.size w w2)(hvn:w2.ownsRow 0 2 1 vn l.length (l.map (Value.int .i64)))(hfn:∀k,vn.ownBlock=some k→w.heap.size≤k)
 (hown:w3.ownsRow 0 44 1 vr' (s.rows.length+1) (vrs++[vn]))
 (hg:(w2.alloc o).grownBy w3 vr.ownBlock) (hfr:∀k,vr'.ownBlock=some k→vr.ownBlock=some k∨w2.heap.size<k):RunO (w3.setCell ⟨nb,6,none⟩ vr') D x0 x1 x2 nb gi gb ga n vr' vt (vrs++[vn]) (s.addR l):=by
 have h2:=h.below hw2;have ha:Below w2.heap.size w2 (w2.alloc o):=(Br _ _).alloc (Nr _) _;have hb3:BoxAt w3 nb (YbH x0 x1 x2 gi gb ga n vr vt s) 74:=(h2.box.alloc o).grown hg (Yas h2.arr h2.box ZD);have hk:∀{e sz m:Nat} {u:Value} {xs:List Value},e≠44→e≠74→w2.ownsRow 0 e sz u m xs→(w3.setCell ⟨nb,6,none⟩ vr').ownsRow 0 e sz u m xs:=fun he he' hu=>by
  have h3:=YaD hu ha hg (fun g e=>Yp hu h2.arr he e);exact ownsRow_setCell_other h3 (Yas h3 hb3 he') _
 have hl:=h.lens.2.2.2;have hcase:∀(i:Nat) (v:Value),(vrs++[vn])[i]?=some v→vrs[i]?=some v∨i=vrs.length∧v=vn:=fun i v hv=>by
  by_cases hi:i<vrs.length
  · rw[List.getElem?_append_left hi]at hv
    exact .inl hv
  · rw[List.getElem?_append_right ZO]at hv
    obtain⟨h1,h2⟩:=List.getElem?_eq_some_iff.1 hv;simp at h1;have:i=vrs.length:=by omega
    subst this;simp at h2;exact .inr ⟨rfl,h2.symm⟩
 have hlt:∀(i:Nat) (v:Value) (b:Nat),vrs[i]?=some v→v.ownBlock=some b→b<w.heap.size:=fun i v b hv hb=>(Yv (h.rows i v hv) hb).2
 have hsz:=hw2.size;refine⟨hb3.set 6 vr',h.bs,h.di,h.db,h.da,fun k e hd=>?_,h.dt,fun i v k hv hk2 hd=>?_,hk ZD ZD h2.ints,hk ZD ZD h2.bools,hk ZD ZD h2.arrs,?_,?_,?_,?_,hk ZD ZD h2.tr,h.trI,?_⟩
 · rcases hfr k e with h1|h1
   · exact h.dr k h1 hd
   · have:=hD k hd
     omega
 · rcases hcase i v hv with h1|⟨rfl,rfl⟩
   · exact h.dv i v k h1 hk2 hd
   · have:=hD k hd
     have:=hfn k hk2;omega
 · have:=ownsRow_setCell_other hown (Yas hown hb3 ZD) (a:=⟨nb,6,none⟩) vr'
   unfold RSt.addR;simpa using this
 · intro i v hv
   unfold RSt.addR;rcases hcase i v hv with h1|⟨rfl,rfl⟩
   · have hi:i<s.rows.length:=by rw[← hl];exact(List.getElem?_eq_some_iff.1 h1).1
     have:(s.rows++[l]).getD i []=s.rows.getD i []:=by simp[List.getD_eq_getElem?_getD,List.getElem?_append_left hi]
     rw[this];exact hk ZD ZD (h2.rows i v h1)
   · have:(s.rows++[l]).getD vrs.length []=l:=by rw[hl];simp[List.getD_eq_getElem?_getD]
     rw[this];exact hk ZD ZD hvn
 · intro i j vi vj b hij hi hj hb e
   rcases hcase i vi hi with h1|⟨rfl,rfl⟩
   · rcases hcase j vj hj with h3|⟨rfl,rfl⟩
     · exact h.apart i j vi vj b hij h1 h3 hb e
     · have:=hlt i vi b h1 hb
       have:=hfn b e;omega
   · rcases hcase j vj hj with h3|⟨rfl,rfl⟩
     · have:=hlt j vj b h3 e
       have:=hfn b hb;omega
     · exact hij rfl
 · intro i v hv e
   rcases hcase i v hv with h1|⟨rfl,rfl⟩
   · exact h.apartI i v h1 e
   · have:=hfn gi e
     have:=(h.ints.lt gi rfl).2;omega
 · intro i v b hv hb e
   rcases hcase i v hv with h1|⟨rfl,rfl⟩
   · exact h.trR i v b h1 hb e
   · have:=hfn b hb
     have:=(Yv h.tr e).2;omega
end
structure RInv (F:PFunc) (s:RSt):Prop where
 li:s.ints.length=F.vars.length
 lb:s.bools.length=F.vars.length
 la:s.arrs.length=F.vars.length
 blk:s.block<F.blocks.length
 pc:s.pc≤(F.blk s.block).insts.length
 arrs:∀v∈s.arrs,v<(s.rows.length:Int)
 ints:∀v∈s.ints,I64 v
 rows:∀r∈s.rows,∀v∈r,I64 v
 ll:∀r∈s.rows,r.length≤64
 lr:s.rows.length≤32
 lt:s.trace.length≤4096
 lc:s.checks.length=8
def Ybf(F:PFunc):Prop:=∀b∈F.blocks,∀x∈b.insts,I64 x.num
theorem Yed(x:Int):I64 (wrap64 x):=by unfold I64 wrap64;omega
theorem Yee:I64 0:=by unfold I64;omega
theorem Ycb{xs:List Int}{i:Nat}(h:i<xs.length):ith xs i∈xs:=List.mem_of_getElem? (Yaa h)
theorem Yim{xs:List Int}{p:Int→Prop}(h:∀x∈xs,p x)(h0:p 0)(i:Nat):p (ith xs i):=by
 by_cases hi:i<xs.length
 · exact h _ (Ycb hi)
 · rw[ith,List.getD_eq_getElem?_getD,List.getElem?_eq_none ZO]
   exact h0
theorem Yef{α:Type}{xs:List α}{p:α→Prop}(h:∀x∈xs,p x){i:Nat}{y:α}(hy:p y):∀x∈xs.set i y,p x:=fun x hx=>by
 rcases List.mem_or_eq_of_mem_set hx with h1|rfl
 · exact h x h1
 · exact hy
theorem Yin{F:PFunc}{l:List Int}(h:Yw F l=true){i:Nat}(hi:i<l.length):∃k:Nat,ith l i=k∧k<F.vars.length:=by
 unfold Yw at h;exact Yae (List.all_eq_true.1 h _ (Ycb hi))
section
variable {F:PFunc} {s:RSt}
theorem RInv.int(h:RInv F s)(v:Int):I64 (s.int v):=Yim h.ints Yee _
theorem RInv.arr(h:RInv F s){v:Int}{k:Nat}(hv:v=k)(hk:k<F.vars.length):s.arr v<(s.rows.length:Int):=by
 subst hv;have:=h.la;exact h.arrs _ (Ycb ZX)
theorem RInv.row(h:RInv F s)(a:Int)(i:Nat):I64 (ith (s.row a) i):=by
 refine Yim (fun x hx=>?_) Yee i;unfold RSt.row at hx
 by_cases hi:a.toNat<s.rows.length
 · rw[List.getD_eq_getElem?_getD,List.getElem?_eq_getElem hi]at hx
   exact h.rows _ (List.getElem_mem hi) x hx
 · rw[List.getD_eq_getElem?_getD,List.getElem?_eq_none ZO]at hx
   cases hx
theorem RInv.rlen(h:RInv F s)(a:Int):(s.row a).length≤64:=by
 unfold RSt.row
 by_cases hi:a.toNat<s.rows.length
 · rw[List.getD_eq_getElem?_getD,List.getElem?_eq_getElem hi]
   exact h.ll _ (List.getElem_mem hi)
 · rw[List.getD_eq_getElem?_getD,List.getElem?_eq_none ZO]
   simp
theorem RInv.endW(h:RInv F s)(e:Int):RInv F (s.endW e):=⟨h.li,h.lb,h.la,h.blk,h.pc,h.arrs,h.ints,h.rows,h.ll,h.lr,h.lt,h.lc⟩
theorem RInv.trapW(h:RInv F s)(e:Int):RInv F (s.trapW e):=⟨h.li,h.lb,h.la,h.blk,h.pc,h.arrs,h.ints,h.rows,h.ll,h.lr,h.lt,h.lc⟩
theorem RInv.tick(h:RInv F s)(t:Nat):RInv F (s.tick t):=⟨h.li,h.lb,h.la,h.blk,h.pc,h.arrs,h.ints,h.rows,h.ll,h.lr,h.lt,by simpa[RSt.tick]using h.lc⟩
theorem RInv.setI(h:RInv F s)(d:Int){x:Int}(hx:I64 x):RInv F (s.setI d x):=⟨by simpa[RSt.setI]using h.li,h.lb,h.la,h.blk,h.pc,h.arrs,Yef h.ints hx,h.rows,h.ll,h.lr,h.lt,h.lc⟩
theorem RInv.setB(h:RInv F s)(d:Int)(x:Bool):RInv F (s.setB d x):=⟨h.li,by simpa[RSt.setB]using h.lb,h.la,h.blk,h.pc,h.arrs,h.ints,h.rows,h.ll,h.lr,h.lt,h.lc⟩
theorem RInv.setA(h:RInv F s)(d:Int){x:Int}(hx:x<(s.rows.length:Int)):RInv F (s.setA d x):=⟨h.li,h.lb,by simpa[RSt.setA]using h.la,h.blk,h.pc,Yef h.arrs hx,h.ints,h.rows,h.ll,h.lr,h.lt,h.lc⟩
theorem RInv.setR(h:RInv F s)(a i:Int){x:Int}(hx:I64 x):RInv F (s.setR a i x):=by
 refine⟨h.li,h.lb,h.la,h.blk,h.pc,by simpa[RSt.setR]using h.arrs,h.ints,Yef h.rows (Yef (fun v hv=>?_) hx),Yef h.ll (by simpa using h.rlen a),by simpa[RSt.setR]using h.lr,h.lt,h.lc⟩;obtain⟨i,hi,rfl⟩:=List.getElem_of_mem hv;have:=h.row a i
 rwa [ith,List.getD_eq_getElem?_getD,List.getElem?_eq_getElem hi]at this
theorem RInv.addT(h:RInv F s)(hl:s.trace.length<4096)(x:Int):RInv F (s.addT x):=⟨h.li,h.lb,h.la,h.blk,h.pc,h.arrs,h.ints,h.rows,h.ll,h.lr,by simp[RSt.addT];omega,h.lc⟩
theorem RInv.addR(h:RInv F s)(hl:s.rows.length<32){l:List Int}(hx:∀v∈l,I64 v)(hn:l.length≤64):RInv F (s.addR l):=by
 refine⟨h.li,h.lb,h.la,h.blk,h.pc,fun v hv=>?_,h.ints,fun r hr=>?_,fun r hr=>?_,by simp[RSt.addR];omega,h.lt,h.lc⟩
 · have:=h.arrs v hv
   simp[RSt.addR];omega
 · simp only[RSt.addR,List.mem_append,List.mem_singleton]at hr
   rcases hr with hr|rfl
   · exact h.rows r hr
   · exact hx
 · simp only[RSt.addR,List.mem_append,List.mem_singleton]at hr
   rcases hr with hr|rfl
   · exact h.ll r hr
   · exact hn
theorem Yni(a b:Int):I64 (Ycn a b):=by unfold Ycn;split<;>exact Yed _
theorem Ynj(a b:Int):I64 (Yco a b):=by unfold Yco;split<;>first|exact Yee|exact Yed _
theorem RInv.chk(h:RInv F s)(t:Nat)(ok:Bool):RInv F (Ybe t ok s):=by unfold Ybe;split<;>first|exact h.tick t|exact(h.tick t).trapW _
theorem Ynk:∀n:Nat,n<27→(n=0∨n=16∨1≤(YH (n:Int)).length):=by decide +kernel
theorem RInv.instN(h:RInv F s){x:PInst}{n:Nat}(hop:x.op=n)(hn:n<27)(hx:Yj F x=true)(hnum:I64 x.num):RInv F (instN n s x):=by
 obtain⟨hv,hl,-⟩:=YaR hx;have ha:n≠0→n≠16→s.arr (ith x.args 0)<(s.rows.length:Int):=fun h0 h1=>by
  have:=Ynk n hn;rw[hop]at hl;obtain⟨k,h1,h2⟩:=Yin hv (i:=0) ZO;exact h.arr h1 h2
 have hcopy:n≠0→n≠16→RInv F (((s.setI x.dst (s.int (ith x.args 0))).setB x.dst (s.boo (ith x.args 0))).setA x.dst (s.arr (ith x.args 0))):=fun h0 h1=>((h.setI _ (h.int _)).setB _ _).setA _ (ha h0 h1)
 match n,hn with
 |0,_=>exact h.setI _ hnum
 |1,_=>exact hcopy ZD ZD
 |2,_=>exact h.setI _ (Yed _)
 |3,_=>exact h.setI _ (Yed _)
 |4,_=>exact h.setI _ (Yed _)
 |5,_=>
  show RInv F (if _ then _ else _);split
  · exact h.endW _
  · exact h.setI _ (Yni _ _)
 |6,_=>
  show RInv F (if _ then _ else _);split
  · exact h.endW _
  · exact h.setI _ (Ynj _ _)
 |7,_=>exact h.setB _ _
 |8,_=>exact h.setB _ _
 |9,_=>exact h.setB _ _
 |10,_=>exact h.setB _ _
 |11,_=>exact h.setB _ _
 |12,_=>
  show RInv F (if _ then _ else _);split
  · exact h.endW _
  · refine h.setI _ ?_
    have:=h.rlen (s.arr (ith x.args 0));unfold I64;omega
 |13,_=>
  show RInv F (if _ then _ else _);split
  · exact h.setI _ (h.row _ _)
  · exact h.endW _
 |14,_=>
  show RInv F (if _ then _ else _);split
  · exact h.setR _ _ (h.int _)
  · exact h.endW _
 |15,_=>
  show RInv F (if _ then _ else if _ then _ else _);split
  · exact h.endW _
  · split
    · exact h.endW _
    · refine(h.addR ZO (fun v hv=>?_) ZX).setA _ (by simp[RSt.addR];omega)
      rw[List.eq_of_mem_replicate hv];exact Yee
 |16,_=>exact h.setA _ ZO
 |17,_=>
  show RInv F (if _ then _ else _);split
  · exact h.endW _
  · exact h.addT ZO _
 |18,_=>exact h.chk _ _
 |19,_=>exact h.chk _ _
 |20,_=>exact h.chk _ _
 |21,_=>exact h.chk _ _
 |22,_=>exact h.chk _ _
 |23,_=>exact h.chk _ _
 |24,_=>exact h.chk _ _
 |25,_=>exact hcopy ZD ZD
 |26,_=>exact hcopy ZD ZD
 |_+27,hn=>exact absurd hn ZO
theorem YeZ(n:Nat)(s:RSt)(x:PInst):(instN n s x).block=s.block∧(instN n s x).pc=s.pc∧(instN n s x).steps=s.steps:=by
 have hchk:∀t ok,(Ybe t ok s).block=s.block∧(Ybe t ok s).pc=s.pc∧(Ybe t ok s).steps=s.steps:=fun t ok=>by
  unfold Ybe;split<;>exact⟨rfl,rfl,rfl⟩
 unfold instN;dsimp only;split<;>(try split)<;>(try split)<;>first|exact⟨rfl,rfl,rfl⟩|exact hchk _ _
theorem RInv.inst(h:RInv F s){x:PInst}(hx:Yj F x=true)(hnum:I64 x.num):RInv F (Yca s x):=by
 have ho:YaA x.op=true:=by
  unfold Yj at hx;simp only[Bool.and_eq_true]at hx;exact hx.1.1.1.1
 obtain⟨k,hk,hk2⟩:=Yae ho;unfold Yca;rw[hk,Int.toNat_natCast];exact h.instN hk hk2 hx hnum
theorem RInv.goTo(h:RInv F s){dest:Nat}(ht:dest<F.blocks.length):RInv F (s.goTo dest):=⟨h.li,h.lb,h.la,ht,Nz _,h.arrs,h.ints,h.rows,h.ll,h.lr,h.lt,h.lc⟩
theorem Ygk:∀(fs l:List Int) (b:Int),Yt fs l b=-1∨Yt fs l b∈l
 |[],_,_=>.inl (by unfold Yt;rfl)
 |_::_,[],_=>.inl (by unfold Yt;rfl)
 |f::fs,a::l,b=>by
  unfold Yt;split
  · exact .inr (List.mem_cons_self ..)
  · exact(Ygk fs l b).imp_right (List.mem_cons_of_mem _)
theorem Yio{o:RSt}(ho:RInv F o):∀(ps:List PPhi) (gs:List Int) (s:RSt),RInv F s→s.rows=o.rows→(∀g∈gs,∃k:Nat,g=k∧k<F.vars.length)→RInv F (YQ o ps gs s)
 |[],_,_,h,_,_=>by unfold YQ;exact h
 |_::_,[],_,h,_,_=>by unfold YQ;exact h
 |p::ps,g::gs,s,h,hr,hg=>by
  unfold YQ;obtain⟨k,h1,h2⟩:=hg g (List.mem_cons_self ..);exact Yio ho ps gs _ (((h.setI _ (ho.int _)).setB _ _).setA _ (by have:=ho.arr h1 h2;rw[← hr]at this;exact this)) hr (fun g' hg'=>hg g' (List.mem_cons_of_mem _ hg'))
theorem RInv.enter(h:RInv F s)(hT:Yk F=true){dest:Nat}(ht:dest<F.blocks.length):RInv F (YM F dest s):=by
 unfold YM;split
 · exact(h.goTo ht).endW _
 · rename_i hn
   refine RInv.goTo (Yio h _ _ _ h rfl (fun g hg=>?_)) ht;have hng:¬g<0:=fun e=>hn (List.any_eq_true.2 ⟨g,hg,decide_eq_true e⟩)
   obtain⟨p,hp,rfl⟩:=List.mem_map.1 hg;obtain⟨hv,-⟩:=Yez ((Yaw hT ht).1 p hp);rcases Ygk p.froms p.args s.block with h1|h1
   · rw[h1]at hng
     omega
   · unfold Yw at hv
     exact Yae (List.all_eq_true.1 hv _ h1)
theorem Ye0{b:PBlock}{i:Nat}(h:i<b.insts.length):b.inst i∈b.insts:=List.mem_of_getElem? (PBlock.inst_get h)
theorem YcH(h:Yd F=true):Yk F=true:=by
 unfold Yd at h;simp only[Bool.and_eq_true]at h;exact h.1
theorem YcI(h:s.pc<(F.blk s.block).insts.length):Yx F s=Yca { s with steps:=wrap64 (s.steps+1),pc:=s.pc+1 } ((F.blk s.block).inst s.pc):=if_pos h
theorem Yds(hT:Yd F=true)(h:RInv F s):((s.pc<(F.blk s.block).insts.length∨(F.blk s.block).term.kind=2)∧Yby F s=-1∧(Yx F s).block=s.block)∨∃c∈EN F s.block,Yby F s=(c:Int)∧Yx F s=YM F c { s with steps:=wrap64 (s.steps+1) }:=by
 by_cases h1:s.pc<(F.blk s.block).insts.length
 · refine .inl ⟨.inl h1,if_pos (.inl h1),?_⟩
   rw[YcI h1];exact(YeZ _ _ _).1
 by_cases h2:(F.blk s.block).term.kind=2
 · refine .inl ⟨.inr h2,if_pos (.inr h2),?_⟩
   unfold Yx;dsimp only;rw[if_neg h1,if_pos h2];rfl
 have hE:=YeC hT h.blk;have hlt:=YbC hT h.blk;have htb:=(Yaw (YcH hT) h.blk).2.2;right;have hn:Yby F s=if(F.blk s.block).term.kind=0∨s.bools.getD (F.blk s.block).term.var.toNat false=true then(F.blk s.block).term.t0 else(F.blk s.block).term.t1:=if_neg (fun e=>e.elim h1 h2)
 have hs:Yx F s=if(F.blk s.block).term.kind=0∨s.bools.getD (F.blk s.block).term.var.toNat false=true then YM F (F.blk s.block).term.t0.toNat { s with steps:=wrap64 (s.steps+1) } else YM F (F.blk s.block).term.t1.toNat { s with steps:=wrap64 (s.steps+1) }:=by
  unfold Yx;dsimp only;rw[if_neg h1,if_neg h2];rfl
 have hmem:∀t∈endsOf (F.blk s.block).term,t.toNat∈EN F s.block∧t=(t.toNat:Int):=fun t ht=>by
  refine⟨List.mem_map.2 ⟨t,ht,rfl⟩,?_⟩;rw[hE]at ht;obtain⟨k,-,rfl⟩:=List.mem_map.1 ht;simp
 have hk:(F.blk s.block).term.kind=0∨(F.blk s.block).term.kind=1:=by
  unfold YX at htb
  by_cases e0:(F.blk s.block).term.kind=0
  · exact .inl e0
  · rw[if_neg e0]at htb
    by_cases e1:(F.blk s.block).term.kind=1
    · exact .inr e1
    · rw[if_neg e1,if_neg h2]at htb
      cases htb
 have hm0:(F.blk s.block).term.t0∈endsOf (F.blk s.block).term:=by
  unfold endsOf;rcases hk with e|e<;>rw[e]
  · exact ZS
  · rw[if_neg ZD,if_pos rfl]
    split<;>simp
 split at hn
 · rename_i hc
   rw[if_pos hc]at hs;exact⟨_,(hmem _ hm0).1,by rw[hn];exact(hmem _ hm0).2,hs⟩
 · rename_i hc
   rw[if_neg hc]at hs;have hm1:(F.blk s.block).term.t1∈endsOf (F.blk s.block).term:=by
    unfold endsOf;rcases hk with e|e
    · exact absurd (.inl e) hc
    · rw[if_neg (by rw[e];decide),if_pos e]
      split
      · rename_i e2
        rw[← e2];simp
      · exact ZS
   exact⟨_,(hmem _ hm1).1,by rw[hn];exact(hmem _ hm1).2,hs⟩
theorem RInv.step(hT:Yd F=true)(hN:Ybf F)(h:RInv F s):RInv F (Yx F s):=by
 have hs:=YcH hT;have h0:RInv F { s with steps:=wrap64 (s.steps+1) }:=⟨h.li,h.lb,h.la,h.blk,h.pc,h.arrs,h.ints,h.rows,h.ll,h.lr,h.lt,h.lc⟩
 by_cases h1:s.pc<(F.blk s.block).insts.length
 · rw[YcI h1]
   have hm:=Ye0 h1;refine RInv.inst ?_ ((Yaw hs h.blk).2.1 _ hm) (hN _ (YK h.blk) _ hm);exact⟨h.li,h.lb,h.la,h.blk,h1,h.arrs,h.ints,h.rows,h.ll,h.lr,h.lt,h.lc⟩
 · rcases Yds hT h with⟨h2,-⟩|⟨c,hc,-,h3⟩
   · have hk:=h2.resolve_left h1
     unfold Yx;dsimp only;rw[if_neg h1,if_pos hk];refine RInv.endW ?_ _;exact⟨h.li,h.lb,h.la,h.blk,h.pc,h.arrs,h.ints,h.rows,h.ll,h.lr,h.lt,h.lc⟩
   · rw[h3]
     exact h0.enter hs (YbC hT h.blk c hc)
end
theorem Ynl:∀i,i<27→∀j,j<27→((kindAt i).1==(kindAt j).1)=decide (i=j):=by decide +kernel
theorem Ys(i:Nat)(hi:i<27)(j:Nat)(hj:j<27):((bs (kindAt i).1).toList==(kindAt j).1)=decide (i=j):=by
 rw[show(bs (kindAt i).1).toList=(kindAt i).1 by simp[bs,Lib.toList_data]];exact Ynl i hi j hj
theorem Y5(i:Nat)(hi:i<27){sW:ByteArray}(h:sW=bs (kindAt i).1):(sW.toList==[99,111,110,115,116])=decide (i=0)∧(sW.toList==[99,111,112,121])=decide (i=1)∧(sW.toList==[112,105])=decide (i=25)∧(sW.toList==[112,105,108,101,110])=decide (i=26)∧(sW.toList==[97,100,100])=decide (i=2)∧(sW.toList==[115,117,98])=decide (i=3)∧(sW.toList==[109,117,108])=decide (i=4)∧(sW.toList==[100,105,118])=decide (i=5)∧(sW.toList==[114,101,109])=decide (i=6)∧(sW.toList==[101,113])=decide (i=7)∧(sW.toList==[108,116])=decide (i=8)∧(sW.toList==[108,101])=decide (i=9)∧(sW.toList==[110,111,116])=decide (i=10)∧(sW.toList==[97,110,100])=decide (i=11)∧(sW.toList==[108,101,110])=decide (i=12)∧(sW.toList==[108,111,97,100])=decide (i=13)∧(sW.toList==[115,116,111,114,101])=decide (i=14)∧(sW.toList==[110,101,119])=decide (i=15)∧(sW.toList==[110,105,108])=decide (i=16)∧(sW.toList==[111,117,116])=decide (i=17):=by
 rw[h];exact⟨Ys i hi 0 ZD,Ys i hi 1 ZD,Ys i hi 25 ZD,Ys i hi 26 ZD,Ys i hi 2 ZD,Ys i hi 3 ZD,Ys i hi 4 ZD,Ys i hi 5 ZD,Ys i hi 6 ZD,Ys i hi 7 ZD,Ys i hi 8 ZD,Ys i hi 9 ZD,Ys i hi 10 ZD,Ys i hi 11 ZD,Ys i hi 12 ZD,Ys i hi 13 ZD,Ys i hi 14 ZD,Ys i hi 15 ZD,Ys i hi 16 ZD,Ys i hi 17 ZD⟩
theorem Ye1{w:World}(o:Nat)(ho:o<27):Calls Tryz.prog 88 #[.int .i64 (o:Int)] w fun e w'=>e=.returned (.int .i64 (if 18≤o∧o≤24 then(o:Int)-17 else 0))∧w'=w:=by
 by_cases h1:18≤o
 · by_cases h2:o≤24
   · rw[if_pos ⟨h1,h2⟩]
     have h3:decide ((o:Int)<18)=false:=decide_eq_false ZO;have h4:decide (24<(o:Int))=false:=decide_eq_false ZO;have h5:wrap64 ((o:Int)-17)=(o:Int)-17:=by unfold wrap64;omega
     go_enter Tryz.func88,Tryz.ntmps88;go_wp2;go_ret;exact⟨rfl,rfl⟩
   · rw[if_neg (fun h=>h2 h.2)]
     have h3:decide ((o:Int)<18)=false:=decide_eq_false ZO;have h4:(24:Int)<(o:Int):=by omega
     go_enter Tryz.func88,Tryz.ntmps88;go_wp2;go_ret;exact⟨rfl,rfl⟩
 · rw[if_neg (fun h=>h1 h.1)]
   have h3:(o:Int)<18:=by omega
   go_enter Tryz.func88,Tryz.ntmps88;go_wp2;go_ret;exact⟨rfl,rfl⟩
def Yc1(w:World)(D:Nat→Prop)(x0 x1 x2:Value)(nb gi gb ga n:Nat)(s':RSt)(w':World):Prop:=∃vr vt vrs,RunO w' D x0 x1 x2 nb gi gb ga n vr vt vrs s'∧Kp D w w'
theorem Yc2{W w:World}{F:PFunc}{Aa:Option Addr}{l:List Int}(hv:Yw F l=true)(hA:Rd W.heap.size Aa l 1 (Yi W))(hW:Below W.heap.size W w){i:Nat}(hi:i<l.length) :
 ∃k b off:Nat,ith l i=(k:Int)∧k<F.vars.length∧Aa=some ⟨b,off,none⟩∧b<w.heap.size∧w.cell? ⟨b,off+i,none⟩=some (.int .i64 (k:Int)):=by
 obtain⟨k,h1,h2⟩:=Yin hv hi;obtain⟨b,off,h3,h4,h5⟩:=hA.int hW hi;rw[h1]at h5;exact⟨k,b,off,h1,h2,h3,h4,h5⟩
theorem Yip{w:World}{D:Nat→Prop}{nb gi gb ga n:Nat}{x0 x1 x2 vr vt:Value}{vrs:List Value}{s:RSt}(h:RunO w D x0 x1 x2 nb gi gb ga n vr vt vrs s){r b:Int}(hp:s.placeB r b=true) :
 ∃kr j g cap gr capr:Nat,r=kr∧b=j∧(kr:Int)<(s.rows.length:Int)∧(j:Int)<((s.row r).length:Int)∧vr=.slice (some ⟨gr,0,none⟩) s.rows.length capr∧gr<w.heap.size∧w.cell? ⟨gr,kr,none⟩=some (.slice (some ⟨g,0,none⟩) (s.row r).length cap)∧
  vrs[kr]?=some (.slice (some ⟨g,0,none⟩) (s.row r).length cap)∧g<w.heap.size∧w.cell? ⟨g,j,none⟩=some (.int .i64 (ith (s.row r) j))∧w.frozen? ⟨g,j,none⟩=false:=by
 unfold RSt.placeB at hp;simp only[Bool.and_eq_true,decide_eq_true_eq]at hp;obtain⟨⟨⟨h1,h2⟩,h3⟩,h4⟩:=hp;obtain⟨kr,rfl⟩:=Int.eq_ofNat_of_zero_le h1;obtain⟨j,rfl⟩:=Int.eq_ofNat_of_zero_le h3;have hk:kr<s.rows.length:=by omega
 obtain⟨gr,capr,hvr,hgr,-⟩:=Ydr h.arr ZO;have hl:=h.lens.2.2.2;have hx:vrs[kr]?=some (vrs[kr]'(ZO)):=List.getElem?_eq_getElem ZO;have hrow:=h.rows kr _ hx;obtain⟨g,cap,hv,hg,-⟩:=Ydr hrow (by simp only[Int.toNat_natCast]at h4;omega);have hc:=h.arr;rw[hvr]at hc;have hcell:=hc.cellAt kr ZO;rw[hv]at hrow hx;rw[hx]at hcell;refine⟨kr,j,g,cap,gr,capr,rfl,rfl,h2,h4,hvr,hgr,hcell,hx,hg,?_,hrow.frozenAt j⟩;exact Yn hrow (by simp only[Int.toNat_natCast]at h4;omega)
theorem Ynm{P:Program}{f:FuncId}{args:Array Value}{w:World}{p n:Nat}{v:Value}(h:Calls P f args (w.drewN (p+n)) fun e w'=>e=.returned v∧∃m,w'=(w.drewN (p+n)).drewN m) :
 Calls P f args (w.drewN (p+n)) fun e w''=>e=.returned v∧∃m,w''=w.drewN (p+m):=
 h.mono fun _ _ ⟨he,m,hm⟩=>⟨he,n+m,by rw[hm,World.drewN_drewN,Nat.add_assoc]⟩
theorem RunO.grownT{w w3:World}{D:Nat→Prop}{nb gi gb ga n:Nat}{x0 x1 x2 vr vt:Value}{vrs:List Value}{s:RSt}{o:Obj}(h:RunO w D x0 x1 x2 nb gi gb ga n vr vt vrs s)(hg:(w.alloc o).grownBy w3 vt.ownBlock) :
 w3.cell? ⟨nb,12,none⟩=some vt∧w3.frozen? ⟨nb,12,none⟩=false∧nb<w3.heap.size:=by
 have hb3:BoxAt w3 nb (YbH x0 x1 x2 gi gb ga n vr vt s) 74:=(h.box.alloc o).grown hg (Yas h.tr h.box ZD);exact⟨hb3.cell 12,hb3.frozen 12,hb3.lt⟩
theorem RunO.grownR{w w3:World}{D:Nat→Prop}{nb gi gb ga n:Nat}{x0 x1 x2 vr vt:Value}{vrs:List Value}{s:RSt}{o:Obj}(h:RunO w D x0 x1 x2 nb gi gb ga n vr vt vrs s)(hg:(w.alloc o).grownBy w3 vr.ownBlock) :
 w3.cell? ⟨nb,6,none⟩=some vr∧w3.frozen? ⟨nb,6,none⟩=false∧nb<w3.heap.size:=by
 have hb3:BoxAt w3 nb (YbH x0 x1 x2 gi gb ga n vr vt s) 74:=(h.box.alloc o).grown hg (Yas h.arr h.box ZD);exact⟨hb3.cell 6,hb3.frozen 6,hb3.lt⟩
theorem Tryz.infoI64:((Tryz.prog).info? 2).map (fun i=>(i.zero,i.size,i.bytes))=some (some (.int .i64 0),1,8):=by kernel_rfl
theorem Tryz.infoR64:((Tryz.prog).info? 44).map (fun i=>(i.zero,i.size,i.bytes))=some (some (.slice none 0 0),1,24):=by kernel_rfl
theorem Ynn:∀n:Nat,n<27→2≤(YH (n:Int)).length→¬(18≤n∧n≤24)→n∈[2,3,4,5,6,7,8,9,11,13,14,25,26]:=by decide +kernel
theorem Yno:∀n:Nat,n<27→(YH (n:Int)).length=1→¬(18≤n∧n≤24)→n=1∨n=10∨n=12∨n=15∨n=17:=by decide +kernel
theorem Ynp:∀n:Nat,n<27→(YH (n:Int)).length=0→n=0∨n=16:=by decide +kernel
theorem YaN:∀n:Nat,n<27→Yag (n:Int)=true∨n=14∨n=17∨(18≤n∧n≤24):=by decide +kernel
theorem Ynq:(YH 14).length=3:=by decide +kernel
end Go.Proofs.YthhjlbflpjhahaaGreatDoor
