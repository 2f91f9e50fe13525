/- The walk of merge's one: at a place of a block, one check for several. -/
import Derived.Test.YtjlclkcmfokobaaGreatDoorMgQZ
import Derived.Test.YtjlclkcmfokobaaGreatDoorMonLZ
import Derived.Deep.DeepCutAuto
import Derived.Deep.CutBlock
namespace Go.Proofs.YtjlclkcmfokobaaGreatDoor
open Go.RowKit
set_option maxRecDepth 100000
theorem YiU{α:Type}{qs:List α}{i:Nat}{q:α}(h:qs[i]?=some q):qs.set i q=qs:=by
 obtain⟨hl,he⟩:=List.getElem?_eq_some_iff.1 h;rw[← he];exact List.set_getElem_self hl
theorem YiV{xs:List PInst}{i:Nat}(h:i<xs.length):xs=xs.take i++xs[i]::xs.drop (i+1):=by rw[← List.drop_eq_getElem_cons h,List.take_append_drop]
theorem Yow:∀args w,(callFunc 81 args).run Tryz.prog w=.ok (.enter 81 args) w:=fun _ _=>by kernel_rfl
theorem Yox{w:World}{gv n c:Nat}{o d num v:Int}{A:Option Addr}(hb:BoxAt w gv #[.int .i64 v] 3):Calls Tryz.prog 81 #[.agg #[.int .i64 o,.int .i64 d,.slice A n c,.int .i64 num],.pointer (some ⟨gv,0,none⟩)] w fun e w'=>e=.returned (.bool (decide (d=v)))∧Below w.heap.size w w':=by
 have x0:=hb.cell 0;have xl:=hb.lt;simp at x0;have hd:(d==v)=decide (d=v):=by by_cases e:d=v<;>simp[e]
 generalize decide (d=v)=q at *;clear hb;go_enter Tryz.func81,Tryz.ntmps81;go_wp2;go_ret;exact⟨rfl,BL⟩
section
variable {F:PFunc} {k:Int→Option Int} {w:World} {base gw gb cap gm bi at_:Nat} {vv vp:Value} {qs:List (PBlock×Value×Value)} {b:PBlock} {v1 v2:Value}
def Ygp(F:PFunc)(k:Int→Option Int)(w:World)(base gw gb cap gm bi at_:Nat)(vv vp:Value)(qs:List (PBlock×Value×Value))(b:PBlock)(v1:Value)(e:Ending)(w':World):Prop:=
 ∃S:List PInst×List PInst,S=mrgS k (b.inst at_) (b.insts.drop (at_+1))∧e=.returned (.int .i64 ((at_:Int)+S.1.length))∧(∃v',MgM F k w' base gw gb cap gm vv vp (qs.set bi ({ b with insts:=b.insts.take at_++S.1++S.2 },v1,v')))∧Below base w w'
theorem MgM.place{y:PInst}{A:Option Addr}{c:Nat}(h:MgM F k w base gw gb cap gm vv vp qs)(hy:OkI y)(hd:DInts w (NT [3] w) (.slice A y.args.length c) y.args) :
 Calls Tryz.prog 80 #[.pointer (some ⟨gw,0,none⟩),.agg #[.int .i64 y.op,.int .i64 y.dst,.slice A y.args.length c,.int .i64 y.num]] w fun e w'=>(∃m,e=.returned (.tuple #[.int .i64 m,.bool (fixP k y).isSome])∧∀z,fixP k y=some z→m=z)∧Below w.heap.size w w':=by
 obtain⟨nm,hKM⟩:=h.km;have hr:Rd w.heap.size A y.args 1 (Yk w):=by
  obtain⟨A',c',e,-,-,hr⟩:=hd.rd fun _ h _=>h
  cases e;exact hr
 refine Yor h.box hKM hr fun h1=>?_
 obtain⟨a,v,rfl,h0,h9⟩:=hy.2.2 h1;obtain⟨A',c',e,-,hc,-⟩:=hd;cases e;exact⟨rfl,WalkArith.wf_i64 (show(-9223372036854775808:Int)≤v∧v≤9223372036854775807 from ZO),hc⟩
theorem YdV{A:Option Addr}{c:Nat}{a v:Int}(hd:DInts w (NT [3] w) (.slice A 2 c) [a,v]):∃ab ao,A=some ⟨ab,ao,none⟩∧ab<w.heap.size∧w.cell? ⟨ab,ao,none⟩=some (.int .i64 a)∧w.cell? ⟨ab,ao+1,none⟩=some (.int .i64 v):=by
 obtain⟨A',c',e,-,-,hr⟩:=hd.rd fun _ h _=>h
 cases e;obtain⟨ab,ao,rfl,h1,h2⟩:=hr 0 a rfl;obtain⟨ab',ao',e',h1',h2'⟩:=hr 1 v rfl;cases e';exact⟨ab,ao,rfl,h1,by simpa[Yk]using h2,by simpa[Yk]using h2'⟩
theorem YiW{N:Nat}{x y:Int}(h:BoxAt w N #[.int .i64 x,.int .i64 y] 3):DInts w (NT [3] w) (.slice (some ⟨N,0,none⟩) 2 2) [x,y]:=by
 refine⟨some ⟨N,0,none⟩,2,rfl,(by unfold Len;simp),Nr _,fun j z hz=>?_⟩;have hj:j<2:=(List.getElem?_eq_some_iff.1 hz).1;refine⟨N,0,[.int .i64 z],rfl,⟨_,_,h,ZS⟩,h.lt,rfl,fun i u hu=>?_,rfl⟩;cases i with
 |succ i=>simp at hu
 |zero=>
  simp at hu;subst hu;rw[h.cell]
  match j,hj,hz with
  |0,_,hz=>simp at hz;subst hz;rfl
  |1,_,hz=>simp at hz;subst hz;rfl
theorem KRow.set{w0:World}{gv at1:Nat}{v0 v u:Value}{xs ys:List PInst}{cs:Array Value}(h:KRow w0 w v0 at1 xs v ys)(h0:IRow w base v0 xs)(hb:BoxAt w gv cs 3)(hg:w0.heap.size≤gv):KRow w0 (w.setCell ⟨gv,0,none⟩ u) v0 at1 xs v ys:=
 h.turn (fun c hc=>Yci (p:=⟨gv,0,none⟩) (fun e=>by
  obtain⟨cs',t,h1,h2⟩:=h.nt h0 hc;simp only at e;rw[e]at h1;unfold BoxAt at hb;rw[hb]at h1;cases h1
  simp at h2)) ((Br _ _).setCell (p:=⟨gv,0,none⟩) hg _)
set_option maxHeartbeats 8000000 in
theorem Yoy(h:MgM F k w base gw gb cap gm vv vp qs)(hi:qs[bi]?=some (b,v1,v2))(hat:at_<b.insts.length)(hn:b.insts.length≤1024)(hok:∀x∈b.insts,OkI x)(hO:OnceL b.insts)(hBs:base≤w.heap.size)(_hqn:qs.length≤64) :
 Calls Tryz.prog 39 #[.pointer (some ⟨gw,0,none⟩),.pointer (some ⟨gb,bi*7,none⟩),.int .i64 at_] w (Ygp F k w base gw gb cap gm bi at_ vv vp qs b v1):=by
 obtain⟨hR,hgl,hgB,-,c0,c1,c2,c3,c4,c5,c6⟩:=h.rows hi;obtain⟨g,cI,A1,n1,hv2,-,hg,hnc,-,hfz,-,k0,k1,k2,k3,hd⟩:=hR.cells hat;rw[show b.insts[at_]=b.inst at_ by simp[PBlock.inst,hat]]at k0 k1 k2 k3 hd;subst hv2;have hsp:b.insts=b.insts.take at_++b.inst at_::b.insts.drop (at_+1):=by
  have h1:=YiV hat
  rwa [show b.insts[at_]=b.inst at_ by simp[PBlock.inst,hat]]at h1
 have hxo:=hok _ (List.mem_of_getElem? (PBlock.inst_get hat));have hlo:∀y∈b.insts.drop (at_+1),OkI y:=fun y hy=>hok y (List.mem_of_mem_drop hy)
 obtain⟨x,hx⟩:∃x,b.inst at_=x:=⟨_,rfl⟩;unfold Ygp;rw[hx]at k0 k1 k2 k3 hd hxo hsp ⊢;obtain⟨wX,hwX⟩:∃wX:World,wX=w.alloc (.cells #[.int .i64 x.op,.int .i64 x.dst,.slice A1 x.args.length n1,.int .i64 x.num] 44):=⟨_,rfl⟩;have hbX:Below w.heap.size w wX:=by rw[hwX];exact YO _ _
 have bX:BoxAt wX w.heap.size #[.int .i64 x.op,.int .i64 x.dst,.slice A1 x.args.length n1,.int .i64 x.num] 44:=by rw[hwX];exact BoxAt.new _ _ _
 have hMX:=h.below hbX;have hdX:DInts wX (NT [3] wX) (.slice A1 x.args.length n1) x.args:=hd.turn ((KT.of_below (ts:=[3]) hbX).tr ZS);have hpl:=hMX.place hxo hdX;obtain⟨A1p,cp,hv1⟩:∃A c,v1=.slice A b.phis.length c:=by
  obtain⟨cs,-,-,h3,-⟩:=h.hq.all_ _ (List.mem_of_getElem? hi);exact h3.form
 subst hv1;have HI:=Lh hi;have HM:=Lh h;have HMX:=Lh hMX;have HXO:=Lh hxo;have HLO:=Lh hlo;have HOK:=Lh hok;have HO:=Lh hO;have HSP:=Lh hsp;have HDX:=Lh hdX;have hatz:(at_:Int)<(b.insts.length:Int):=by omega
 have s0:=bX.cell 0;have s1:=bX.cell 1;have s2:=bX.cell 2;have s3:=bX.cell 3;have sl:=bX.lt;simp at s0 s1 s2 s3;obtain⟨l,hl⟩:∃l,b.insts.drop (at_+1)=l:=⟨_,rfl⟩;have hll:at_+1+l.length=b.insts.length:=by rw[← hl,List.length_drop];omega
 rw[hl]at HLO HSP ⊢;have HL:=Lh hl;have HX:=Lh hx;clear h hMX hdX hxo hlo hok hO hsp hx hi hR hd hl;cases hf:fixP k x with
 |none=>
  rw[hf]at hpl;have HF:=Lh hf;clear hf;go_enter Tryz.func39,Tryz.ntmps39
  go_upto_region 2 with fail
  go_loud (rw[← hwX])
  clear hwX;go_wp2_with(go_at_call 80;refine hpl.mono ?_;rintro e w2 ⟨⟨m0,rfl,-⟩,hb2⟩);go_ret;have hS:mrgS k x l=([x],l):=by unfold mrgS;rw[HF.out]
  refine⟨_,hS.symm,ZS,⟨.slice (some ⟨g,0,none⟩) b.insts.length cI,?_⟩,(hbX.trans (hb2.mono hbX.size)).mono hBs⟩;have e1:({ b with insts:=b.insts.take at_++[x]++l }:PBlock)=b:=by
   rw[List.append_assoc,List.singleton_append,← HSP.out]
  rw[e1,YiU HI.out];exact HMX.out.below hb2
 |some best=>
  rw[hf]at hpl;obtain⟨a,v,hxe,hv0,hv9⟩:=HXO.out.2.2 (Ybc hf);have hhf:=hf;rw[hxe]at hhf;subst hxe;have HF:=Lh hf;have HXO2:=Lh HXO.out;clear hf hhf HXO;have hwin:∀w':World,Below w.heap.size w w'→∀w'':World,Below w'.heap.size w' w''→Calls Tryz.prog 36 #[.agg #[.string b.name,.slice A1p b.phis.length cp,.slice (some ⟨g,0,none⟩) b.insts.length cI,.int .i64 b.term.kind,.int .i64 b.term.var,.int .i64 b.term.t0,.int .i64 b.term.t1],.int .i64 (at_:Int)] w'' fun e w3=>e=.returned (.int .i64 (Yby b.insts at_))∧Below w''.heap.size w'' w3:=fun w' hb' w'' hb''=>by
   have hM':=HM.out.below hb';have hR':=(hM'.rows HI.out).1;obtain⟨A',c',e,-,-,hrd⟩:=hR'.sinsts ZO;cases e;exact YiS hrd ZO hnc (fun x hx=>⟨(HOK.out x hx).1,(HOK.out x hx).2.1⟩) hb'' (at_:Int)
  have hwn:Yby b.insts (at_:Int)=(Yl l:Int):=by
   unfold Yby;rw[if_neg ZO,Int.toNat_natCast,HL.out]
  rw[hwn]at hwin;have HWIN:=Lh hwin;obtain⟨ab,ao,rfl,hab,hav0,hav1⟩:=YdV HDX.out;have hlen2:(chk a v).args.length=2:=rfl;rw[hlen2]at s2 hpl k2 hwX bX;clear hwin hwn;go_enter Tryz.func39,Tryz.ntmps39
  go_upto_region 2 with fail
  go_loud (rw[← hwX])
  clear hwX
  go_upto_region 5 with(go_at_call 80;refine hpl.mono ?_;rintro e w2 ⟨⟨m0,rfl,hm0⟩,hb2⟩;obtain rfl:=hm0 best rfl;clear hm0)
  have hB2:Below w.heap.size w w2:=hbX.trans (hb2.mono hbX.size);have M2:=HMX.out.below hb2;have f2:=(hb2.cell (p:=⟨w.heap.size,2,none⟩) sl).trans s2;have fv:=(hb2.cell (p:=⟨ab,ao+1,none⟩) hab).trans hav1;have g0:=(hB2.cell (p:=⟨gb,bi*7,none⟩) hgl).trans c0;have g1:=(hB2.cell (p:=⟨gb,bi*7+1,none⟩) hgl).trans c1;have g2:=(hB2.cell (p:=⟨gb,bi*7+2,none⟩) hgl).trans c2;have g3:=(hB2.cell (p:=⟨gb,bi*7+3,none⟩) hgl).trans c3;have g4:=(hB2.cell (p:=⟨gb,bi*7+4,none⟩) hgl).trans c4;have g5:=(hB2.cell (p:=⟨gb,bi*7+5,none⟩) hgl).trans c5;have g6:=(hB2.cell (p:=⟨gb,bi*7+6,none⟩) hgl).trans c6;have l2:w.heap.size<w2.heap.size:=Nt sl hb2.size;have lab:ab<w2.heap.size:=Nt hab hb2.size;have lgb:gb<w2.heap.size:=Nt hgl hB2.size;have lg:g<w2.heap.size:=Nt hg hB2.size;have HB2:=Lh hB2;have HM2:=Lh M2;have bX2:=Lh (bX.below hb2 bX.lt);have HAV0:=Lh ((hb2.cell (p:=⟨ab,ao,none⟩) hab).trans hav0);have HAV1:=Lh fv;have HG2:=Lh g2;have HGL:=Lh hgl;have HDX2:=Lh (show DInts w2 (NT [3] w2) (.slice (some ⟨ab,ao,none⟩) 2 n1) [a,v]from HDX.out.turn ((KT.of_below (ts:=[3]) hb2).tr ZS));obtain⟨nw,hnw⟩:∃nw,Yl l=nw:=⟨_,rfl⟩;rw[hnw]at HWIN;have HNW:=Lh hnw;have HWB:=Lh (show nw≤1024 by have:=YcT (l:=l);omega);clear hnw hb2 hpl hfz s0 s1 s2 s3 sl c0 c1 c2 c3 c4 c5 c6 k0 k1 k2 k3 hav0 hav1 hab bX hbX hB2 M2 HDX HMX hgl hg;refine YeE [36,37,38,39,40,41,42,43,44,10] (fun i w' v'=>(([fun _ v'=>v'=.pointer (some ⟨w.heap.size,2,none⟩),fun _ v'=>v'=.slice (some ⟨ab,ao,none⟩) 2 n1,fun _ v'=>v'=.pointer (some ⟨ab,ao+1,none⟩),fun _ v'=>v'=.int .i64 v,fun _ v'=>v'=.pointer (some ⟨gb,bi*7,none⟩),fun _ v'=>v'=.pointer (some ⟨gb,bi*7,none⟩),fun _ v'=>v'=.agg #[.string b.name,.slice A1p b.phis.length cp,.slice (some ⟨g,0,none⟩) b.insts.length cI,.int .i64 b.term.kind,.int .i64 b.term.var,.int .i64 b.term.t0,.int .i64 b.term.t1],fun _ v'=>v'=.int .i64 (at_:Int),fun _ v'=>v'=.int .i64 (nw:Int),fun w' v'=>∃N,v'=.pointer (some ⟨N,0,none⟩)∧w2.heap.size≤N∧BoxAt w' N #[.int .i64 0] 3]:List (World→Value→Prop)).getD i (fun _ _=>True)) w' v') ZK ZK ZK ZD ZK ZD ?mono ?step ?last
  case mono=>
   intro i w1 w2 v hi hb h
   match i,hi,h with
   |0,_,h=>exact h
   |1,_,h=>exact h
   |2,_,h=>exact h
   |3,_,h=>exact h
   |4,_,h=>exact h
   |5,_,h=>exact h
   |6,_,h=>exact h
   |7,_,h=>exact h
   |8,_,h=>exact h
   |9,_,h=>exact(by obtain⟨N,e1,e2,e3⟩:=h;exact⟨N,e1,e2,e3.below hb e3.lt⟩)
   |k+10,hi,_=>exact absurd hi (Nat.not_lt_of_le (Nat.le_add_left _ _))
  case step=>
   intro i o vs w1 ho hi hl hb hp K hK;have hl0:vs.length=10:=hl;clear hl;obtain⟨v0,r0,rfl,hl1⟩:=Ye (n:=9) hl0;obtain⟨v1,r1,rfl,hl2⟩:=Ye (n:=8) hl1;obtain⟨v2,r2,rfl,hl3⟩:=Ye (n:=7) hl2;obtain⟨v3,r3,rfl,hl4⟩:=Ye (n:=6) hl3;obtain⟨v4,r4,rfl,hl5⟩:=Ye (n:=5) hl4;obtain⟨v5,r5,rfl,hl6⟩:=Ye (n:=4) hl5;obtain⟨v6,r6,rfl,hl7⟩:=Ye (n:=3) hl6;obtain⟨v7,r7,rfl,hl8⟩:=Ye (n:=2) hl7;obtain⟨v8,r8,rfl,hl9⟩:=Ye (n:=1) hl8;obtain⟨v9,r9,rfl,hl10⟩:=Ye (n:=0) hl9;obtain rfl:=List.eq_nil_of_length_eq_zero hl10;clear hl0 hl1 hl2 hl3 hl4 hl5 hl6 hl7 hl8 hl9 hl10
   match i,ho,hi,hp with
   |0,ho,hi,hp=>
    obtain rfl:=Option.some.inj ho;clear hi;clear hp;simp only[Yc,Act.put,La,Lz,Lc];go_simp
    try go_wp2
    refine hK.out (.pointer (some ⟨w.heap.size,2,none⟩)) _ _ ?_ ZE rfl;simp only[Yc,Act.put,La,Lz,Lc]
   |1,ho,hi,hp=>
    obtain rfl:=Option.some.inj ho;clear hi;have q0:v0=.pointer (some ⟨w.heap.size,2,none⟩):=hp 0 ZK;obtain rfl:=q0;clear hp;simp only[Yc,Act.put,La,Lz,Lc];have z9:=(hb.cell (p:=⟨w.heap.size,2,none⟩) l2).trans f2;have zl:w.heap.size<w1.heap.size:=Nt l2 hb.size;go_simp
    try go_wp2
    refine hK.out (.slice (some ⟨ab,ao,none⟩) 2 n1) _ _ ?_ ZE rfl;simp only[Yc,Act.put,La,Lz,Lc]
   |2,ho,hi,hp=>
    obtain rfl:=Option.some.inj ho;clear hi;have q1:v1=.slice (some ⟨ab,ao,none⟩) 2 n1:=hp 1 ZK;obtain rfl:=q1;clear hp;simp only[Yc,Act.put,La,Lz,Lc];go_simp
    try go_wp2
    refine hK.out (.pointer (some ⟨ab,ao+1,none⟩)) _ _ ?_ ZE rfl;simp only[Yc,Act.put,La,Lz,Lc]
   |3,ho,hi,hp=>
    obtain rfl:=Option.some.inj ho;clear hi;have q2:v2=.pointer (some ⟨ab,ao+1,none⟩):=hp 2 ZK;obtain rfl:=q2;clear hp;simp only[Yc,Act.put,La,Lz,Lc];have z9:=(hb.cell (p:=⟨ab,ao+1,none⟩) lab).trans fv;have zl:ab<w1.heap.size:=Nt lab hb.size;go_simp
    try go_wp2
    refine hK.out (.int .i64 v) _ _ ?_ ZE rfl;simp only[Yc,Act.put,La,Lz,Lc]
   |4,ho,hi,hp=>
    obtain rfl:=Option.some.inj ho;clear hi;clear hp;simp only[Yc,Act.put,La,Lz,Lc];go_simp
    try go_wp2
    refine hK.out (.pointer (some ⟨gb,bi*7,none⟩)) _ _ ?_ ZE rfl;simp only[Yc,Act.put,La,Lz,Lc]
   |5,ho,hi,hp=>
    obtain rfl:=Option.some.inj ho;clear hi;have q4:v4=.pointer (some ⟨gb,bi*7,none⟩):=hp 4 ZK;obtain rfl:=q4;clear hp;simp only[Yc,Act.put,La,Lz,Lc];go_simp
    try go_wp2
    refine hK.out (.pointer (some ⟨gb,bi*7,none⟩)) _ _ ?_ ZE rfl;simp only[Yc,Act.put,La,Lz,Lc]
   |6,ho,hi,hp=>
    obtain rfl:=Option.some.inj ho;clear hi;have q5:v5=.pointer (some ⟨gb,bi*7,none⟩):=hp 5 ZK;obtain rfl:=q5;clear hp;simp only[Yc,Act.put,La,Lz,Lc];have z0:=(hb.cell (p:=⟨gb,bi*7,none⟩) lgb).trans g0;have z1:=(hb.cell (p:=⟨gb,bi*7+1,none⟩) lgb).trans g1;have z2:=(hb.cell (p:=⟨gb,bi*7+2,none⟩) lgb).trans g2;have z3:=(hb.cell (p:=⟨gb,bi*7+3,none⟩) lgb).trans g3;have z4:=(hb.cell (p:=⟨gb,bi*7+4,none⟩) lgb).trans g4;have z5:=(hb.cell (p:=⟨gb,bi*7+5,none⟩) lgb).trans g5;have z6:=(hb.cell (p:=⟨gb,bi*7+6,none⟩) lgb).trans g6;have zl:gb<w1.heap.size:=Nt lgb hb.size;go_simp
    try go_wp2
    refine hK.out (.agg #[.string b.name,.slice A1p b.phis.length cp,.slice (some ⟨g,0,none⟩) b.insts.length cI,.int .i64 b.term.kind,.int .i64 b.term.var,.int .i64 b.term.t0,.int .i64 b.term.t1]) _ _ ?_ ZE rfl;simp only[Yc,Act.put,La,Lz,Lc]
   |7,ho,hi,hp=>
    obtain rfl:=Option.some.inj ho;clear hi;clear hp;simp only[Yc,Act.put,La,Lz,Lc];go_simp
    try go_wp2
    refine hK.out (.int .i64 (at_:Int)) _ _ ?_ ZE rfl;simp only[Yc,Act.put,La,Lz,Lc]
   |8,ho,hi,hp=>
    obtain rfl:=Option.some.inj ho;clear hi;have q6:v6=.agg #[.string b.name,.slice A1p b.phis.length cp,.slice (some ⟨g,0,none⟩) b.insts.length cI,.int .i64 b.term.kind,.int .i64 b.term.var,.int .i64 b.term.t0,.int .i64 b.term.t1]:=hp 6 ZK;have q7:v7=.int .i64 (at_:Int):=hp 7 ZK;obtain rfl:=q6;obtain rfl:=q7;clear hp;simp only[Yc,Act.put,La,Lz,Lc];go_simp;go_at_call 36;refine(HWIN.out _ HB2.out _ hb).mono ?_;rintro e w9 ⟨rfl,hb9⟩;refine hK.out (.int .i64 (nw:Int)) _ _ ?_ (hb9) (rfl);simp only[Yc,Act.put,La,Lz,Lc]
   |9,ho,hi,hp=>
    obtain rfl:=Option.some.inj ho;clear hi;clear hp;simp only[Yc,Act.put,La,Lz,Lc];go_simp;refine hK.out (.pointer (some ⟨w1.heap.size,0,none⟩)) _ _ ?_ ((Br _ _).alloc (Nr _) _) (⟨_,rfl,hb.size,BoxAt.new _ _ _⟩);simp only[Yc,Act.put,La,Lz,Lc]
   |k+10,_,hi,_=>exact absurd hi (Nat.not_lt_of_le (Nat.le_add_left _ _))
  case last=>
   intro vs w1 hl hb1 hp;have hl0:vs.length=10:=hl;clear hl;obtain⟨v0,r0,rfl,hl1⟩:=Ye (n:=9) hl0;obtain⟨v1,r1,rfl,hl2⟩:=Ye (n:=8) hl1;obtain⟨v2,r2,rfl,hl3⟩:=Ye (n:=7) hl2;obtain⟨v3,r3,rfl,hl4⟩:=Ye (n:=6) hl3;obtain⟨v4,r4,rfl,hl5⟩:=Ye (n:=5) hl4;obtain⟨v5,r5,rfl,hl6⟩:=Ye (n:=4) hl5;obtain⟨v6,r6,rfl,hl7⟩:=Ye (n:=3) hl6;obtain⟨v7,r7,rfl,hl8⟩:=Ye (n:=2) hl7;obtain⟨v8,r8,rfl,hl9⟩:=Ye (n:=1) hl8;obtain⟨v9,r9,rfl,hl10⟩:=Ye (n:=0) hl9;obtain rfl:=List.eq_nil_of_length_eq_zero hl10;clear hl0 hl1 hl2 hl3 hl4 hl5 hl6 hl7 hl8 hl9 hl10;have q0:v0=.pointer (some ⟨w.heap.size,2,none⟩):=hp 0 (of_decide_eq_true ZK);have q1:v1=.slice (some ⟨ab,ao,none⟩) 2 n1:=hp 1 (of_decide_eq_true ZK);have q2:v2=.pointer (some ⟨ab,ao+1,none⟩):=hp 2 (of_decide_eq_true ZK);have q3:v3=.int .i64 v:=hp 3 (of_decide_eq_true ZK);have q4:v4=.pointer (some ⟨gb,bi*7,none⟩):=hp 4 (of_decide_eq_true ZK);have q5:v5=.pointer (some ⟨gb,bi*7,none⟩):=hp 5 (of_decide_eq_true ZK);have q6:v6=.agg #[.string b.name,.slice A1p b.phis.length cp,.slice (some ⟨g,0,none⟩) b.insts.length cI,.int .i64 b.term.kind,.int .i64 b.term.var,.int .i64 b.term.t0,.int .i64 b.term.t1]:=hp 6 (of_decide_eq_true ZK);have q7:v7=.int .i64 (at_:Int):=hp 7 (of_decide_eq_true ZK);have q8:v8=.int .i64 (nw:Int):=hp 8 (of_decide_eq_true ZK);have q9:∃N,v9=.pointer (some ⟨N,0,none⟩)∧w2.heap.size≤N∧BoxAt w1 N #[.int .i64 0] 3:=hp 9 (of_decide_eq_true ZK);obtain rfl:=q0;obtain rfl:=q1;obtain rfl:=q2;obtain rfl:=q3;obtain rfl:=q4;obtain rfl:=q5;obtain rfl:=q6;obtain rfl:=q7;obtain⟨rfl⟩:=q8;obtain⟨gv,rfl,hgv,bv⟩:=q9;clear hp;simp only[Yc,Act.put,La,Lz,Lc];simp only[List.length_cons,List.length_nil,List.drop_succ_cons,List.drop_zero,Nat.zero_add,Nat.reduceAdd];have u0:=bv.cell 0;have uf:=bv.frozen 0;have ul:=bv.lt;simp at u0;have bv3:=bv.set 0 (.int .i64 v);simp at bv3;have hb3:=hb1.setCell (p:=⟨gv,0,none⟩) hgv (.int .i64 v);have HBV3:=Lh bv3;have HB3:=Lh hb3;clear hb1 bv bv3 hb3 f2 fv g0 g1 g3 g4 g5 g6
   go_upto_region 6 with fail
   obtain⟨w3,hw3⟩:∃w3:World,w3=w1.setCell ⟨gv,0,none⟩ (.int .i64 v):=⟨_,rfl⟩
   go_loud (rw[← hw3])
   rw[← hw3]at HBV3 HB3;have hz3:=(HB3.out.cell (p:=⟨gb,bi*7+2,none⟩) lgb).trans HG2.out;have lgb3:gb<w3.heap.size:=Nt lgb HB3.out.size;clear hw3 g2 u0 uf ul;go_wp2_with fail
   go_loopw[8,12,13] (fun s8 s12 s13 wr=>∃(j p:Nat) (vk:Value),s8=.int .i64 (gat k a nw m0 v l j).2.1∧s12=vk∧s13=.int .i64 (p:Int)∧p=at_+1+j∧j≤l.length∧KRow w2 wr (.slice (some ⟨g,0,none⟩) b.insts.length cI) (at_+1) b.insts vk (b.insts.take (at_+1)++(gat k a nw m0 v l j).1)∧BoxAt wr gv #[.int .i64 (gat k a nw m0 v l j).2.2] 3∧Below w2.heap.size w2 wr) (fun _ _ s13 _=>b.insts.length-(intOf s13).toNat)
   case atStart=>exact⟨0,at_+1,_,rfl,rfl,ZN,rfl,Nz _,.inl ⟨_,_,_,rfl,rfl,by simp[gat]⟩,HBV3.out,HB3.out⟩
   case round=>as_aux_lemma=>
    clear HBV3 HB3 hz3 lgb3;obtain⟨j,p,vk,rfl,rfl,rfl,hp,hj,hK,hV,hB⟩:=hrel;obtain⟨Ak,ck,hvk⟩:=hK.form ZO;obtain⟨nk,hnk⟩:∃nk,(b.insts.take (at_+1)++(gat k a nw m0 v l j).1).length=nk:=⟨_,rfl⟩;have HNK:=Lh hnk;rw[hnk]at hvk;subst hvk;clear hnk;have hz2:=(hB.cell (p:=⟨gb,bi*7+2,none⟩) lgb).trans HG2.out;have lgr:gb<wr.heap.size:=Nt lgb hB.size
    by_cases hlt:j<l.length
    · as_aux_lemma=>
      have hpl:p<b.insts.length:=by omega
      have hpz:(p:Int)<(b.insts.length:Int):=by omega
      have Mr:=HM2.out.below hB;obtain⟨g',c',A5,n5,hv5,-,hg5,-,-,-,-,o0,o1,o2,o3,hd5⟩:=(HM2.out.rows HI.out).1.cells hpl;simp only[Value.slice.injEq,Option.some.injEq,Addr.mk.injEq,and_true,true_and]at hv5;obtain⟨rfl,rfl⟩:=hv5;have t0:=(hB.cell (p:=⟨g,p*4,none⟩) hg5).trans o0;have t1:=(hB.cell (p:=⟨g,p*4+1,none⟩) hg5).trans o1;have t2:=(hB.cell (p:=⟨g,p*4+2,none⟩) hg5).trans o2;have t3:=(hB.cell (p:=⟨g,p*4+3,none⟩) hg5).trans o3;have hg9:g<wr.heap.size:=Nt hg5 hB.size;obtain⟨y,hy⟩:∃y,b.insts[p]=y:=⟨_,rfl⟩;rw[hy]at t0 t1 t2 t3 hd5;clear o0 o1 o2 o3;have hly:l[j]?=some y:=by rw[← HL.out,List.getElem?_drop,← hp,List.getElem?_eq_getElem hpl,hy]
      have hyo:=HLO.out y (List.mem_of_getElem? hly);obtain⟨wY,hwY⟩:∃wY:World,wY=wr.alloc (.cells #[.int .i64 y.op,.int .i64 y.dst,.slice A5 y.args.length n5,.int .i64 y.num] 44):=⟨_,rfl⟩;have hbY:Below wr.heap.size wr wY:=by rw[hwY];exact YO _ _
      have bY:BoxAt wY wr.heap.size #[.int .i64 y.op,.int .i64 y.dst,.slice A5 y.args.length n5,.int .i64 y.num] 44:=by rw[hwY];exact BoxAt.new _ _ _
      have hdY:DInts wY (NT [3] wY) (.slice A5 y.args.length n5) y.args:=hd5.turn ((KT.of_below (ts:=[3]) (hB.trans (hbY.mono hB.size))).tr ZS);have hpy:=(Mr.below hbY).place hyo hdY;have y0:=bY.cell 0;have y1:=bY.cell 1;have y2:=bY.cell 2;have y3:=bY.cell 3;have yl:=bY.lt;simp at y0 y1 y2 y3;have HY:=Lh hly;have HYO:=Lh hyo;have HDY:=Lh hdY;have HD2:=Lh hd5;have HKR:=Lh hK;have HV:=Lh hV;have HB:=Lh hB;have HBY:=Lh hbY;have HPP:=Lh hp;have bYH:=Lh bY;generalize hG:gat k a nw m0 v l j=G at *;have HG:=Lh hG;clear hd5 hK hV hB Mr hyo hly hy hbY bY hdY hp hG;obtain⟨fy,hfy⟩:∃fy,fixP k y=fy:=⟨_,rfl⟩;rw[hfy]at hpy;obtain⟨th,hth⟩:∃th:Bool,(fy.isNone||!(decide (j<nw∧ith y.args 0=a)))=th:=⟨_,rfl⟩;have HTH:=Lh hth;have HFY:=Lh hfy;clear hth hfy
      go_upto_region 11 with fail
      go_loud (rw[← hwY])
      clear hwY t0 t1 t2 t3 hz2
      go_upto_region 12 with(go_at_call 80;refine hpy.mono ?_;rintro e w8 ⟨⟨m8,rfl,hm8⟩,hb8⟩)
      have hr8:Below wr.heap.size wr w8:=HBY.out.trans (hb8.mono HBY.out.size);have h28:=HB.out.trans (hr8.mono HB.out.size);have by8:=bYH.out.below hb8 bYH.out.lt;have bx8:=bX2.out.below h28 bX2.out.lt;have hdY8:DInts w8 (NT [3] w8) (.slice A5 y.args.length n5) y.args:=HDY.out.turn ((KT.of_below (ts:=[3]) hb8).tr ZS);have q2:=by8.cell 2;have ql:=by8.lt;have e2:=bx8.cell 2;have el:=bx8.lt;have a0:=(h28.cell (p:=⟨ab,ao,none⟩) lab).trans HAV0.out;have la8:ab<w8.heap.size:=Nt lab h28.size;simp at q2 e2;have HBR8:=Lh hr8;have HBY8:=Lh by8;have HDY8:=Lh hdY8;have HM8:=Lh hm8;clear hb8 hr8 h28 by8 bx8 hdY8 hm8 hpy y0 y1 y2 y3 yl HDY bYH HBY hpz;have hwb:=HWB.out
      go_cut[97] (fun s wx=>s=.bool th∧Below w8.heap.size w8 wx)
      case first=>
       by_cases hfar:j<nw
       · have hd1:decide ((at_:Int)+(nw:Int)<(p:Int))=false:=decide_eq_false (by have:=HPP.out;omega)
         cases fy with
         |none=>
          as_aux_lemma=>
          have HT2:=Lh (show th=true by rw[← HTH.out];rfl);clear HTH hfar
          go_quiet (fail)
          (try go_wp2_with fail)
          go_meet
          exact⟨by rw[HT2.out],BLN⟩
         |some m=>
          as_aux_lemma=>
          obtain⟨ay,vy,rfl,-,-⟩:=HYO.out.2.2 (Ybc HFY.out);obtain⟨yb,yo,rfl,hyb,hy0,-⟩:=YdV HDY8.out;have hl2:(chk ay vy).args.length=2:=rfl;rw[hl2]at q2
          by_cases hae:ay=a
          · have hne:(ay !=a)=false:=by simp[hae]
            have HT2:=Lh (show th=false by rw[← HTH.out];simp[hfar,chk,ith,hae]);clear HTH hfar hae
            go_quiet (fail)
            (try go_wp2_with fail)
            go_meet
            exact⟨by rw[HT2.out],BLN⟩
          · have hne:(ay !=a)=true:=by simp[hae]
            have HT2:=Lh (show th=true by rw[← HTH.out];simp[chk,ith,hae]);clear HTH hfar hae
            go_quiet (fail)
            (try go_wp2_with fail)
            go_meet
            exact⟨by rw[HT2.out],BLN⟩
       · as_aux_lemma=>
         have hd1:decide ((at_:Int)+(nw:Int)<(p:Int))=true:=decide_eq_true (by have:=HPP.out;omega);have HT2:=Lh (show th=true by rw[← HTH.out];simp[hfar]);clear HTH hfar
         go_quiet (fail)
         (try go_wp2_with fail)
         go_meet
         exact⟨by rw[HT2.out],BLN⟩
      case rest=>as_aux_lemma=>
       obtain⟨rfl,hcb⟩:=hcut;have hrc:=HBR8.out.trans (hcb.mono HBR8.out.size);have h2c:=HB.out.trans (hrc.mono HB.out.size);have byc:=HBY8.out.below hcb HBY8.out.lt;have y0:=byc.cell 0;have y1:=byc.cell 1;have y2:=byc.cell 2;have y3:=byc.cell 3;have yl:=byc.lt;simp at y0 y1 y2 y3;have HBYC:=Lh byc;have HRC:=Lh hrc;have H2C:=Lh h2c;have HDYC:=Lh (show DInts wc (NT [3] wc) (.slice A5 y.args.length n5) y.args from HDY8.out.turn ((KT.of_below (ts:=[3]) hcb).tr ZS));have hgl:G.1.length≤j:=by have:=Yea (k:=k) (a:=a) (n:=nw) (b:=m0) (v:=v) (l:=l) hj;rw[HG.out]at this;exact this
       have hnk:nk≤1048000:=by have:=HNK.out;rw[List.length_append,List.length_take]at this;omega
       have HPP2:=Lh (show(p+1:Nat)=at_+1+(j+1) by have:=HPP.out;omega);clear hcb hrc h2c byc q2 ql e2 el a0 la8 HBR8 HBY8 HDY8
       go_upto_if 97 with fail
       cases th
       · as_aux_lemma=>
         obtain⟨m,rfl,hjn,hae⟩:∃m,fy=some m∧j<nw∧ith y.args 0=a:=by
          have ht:=HTH.out;cases fy with
          |none=>cases ht
          |some m=>exact⟨m,rfl,by simpa using ht⟩
         obtain rfl:=HM8.out m rfl;obtain⟨ay,vy,rfl,-,-⟩:=HYO.out.2.2 (Ybc HFY.out);obtain⟨yb,yo,rfl,hyb,-,hy1⟩:=YdV HDYC.out;have hl2:(chk ay vy).args.length=2:=rfl;rw[hl2]at y2
         by_cases hgm:G.2.1<m8
         · as_aux_lemma=>
           have hd2:decide (m8 > G.2.1)=true:=decide_eq_true hgm;have HG2:=Lh (show gat k a nw m0 v l (j+1)=(G.1,m8,vy) by rw[YbC HY.out,HG.out,YcU HFY.out ⟨hjn,hae⟩ hgm];rfl);have HKC:=Lh (HKR.out.below HRC.out HB.out.size);have HVC:=Lh (HV.out.below HRC.out HV.out.lt);have HN9:=Lh (HM2.out.rows HI.out).1;clear hgm hjn hae HM8 HTH HFY HDYC HBYC HKR HV HB HD2;have hv0:=HVC.out;have u0:=hv0.cell 0;have ul:=hv0.lt;simp at u0;clear hv0
           go_upto_region 15 with fail
           obtain⟨S0,hS0⟩:∃S0:World→Prop,S0=fun w'=>w'.cell? ⟨wr.heap.size,2,none⟩=some (.slice (some ⟨yb,yo,none⟩) 2 n5)∧w'.cell? ⟨yb,yo+1,none⟩=some (.int .i64 vy)∧w'.cell? ⟨gv,0,none⟩=some (.int .i64 G.2.2)∧Below wc.heap.size wc w'∧wr.heap.size<w'.heap.size∧yb<w'.heap.size∧gv<w'.heap.size:=⟨_,rfl⟩
           have HS0:=Lh hS0;clear hS0;have k0:=fun xw=>(WS.at HS0 xw).1
           have k1:=fun xw=>(WS.at HS0 xw).2.1
           have k2:=fun xw=>(WS.at HS0 xw).2.2.1
           have k3:=fun xw=>(WS.at HS0 xw).2.2.2.1
           have k4:=fun xw=>(WS.at HS0 xw).2.2.2.2.1
           have k5:=fun xw=>(WS.at HS0 xw).2.2.2.2.2.1
           have k6:=fun xw=>(WS.at HS0 xw).2.2.2.2.2.2
           refine Yb0 (S:=S0) [6] ZK ?hS (fun hSc hcl=>?_)
           case hS=>
            rw[HS0.out];exact⟨ZI,ZI,ZI,BL,ZJ,ZJ,ZJ⟩
           have hne0:Nonempty (WS S0):=⟨⟨_,hSc⟩⟩;have hneT:Nonempty (WS (fun _=>True)):=match hne0 with|⟨x⟩=>⟨⟨x.w,trivial⟩⟩
           refine Ya5 [(0,0),(1,0),(2,0),(3,0),(4,0),(5,0)] 1 rfl ZK (fun _ _ _ _ _ h=>h) hSc hcl ?_
           all_goals
            (try simp only[List.map_cons,List.map_nil,Ld,Le])
            repeat
             first
             |((with_reducible refine Ya6 ?_ ?_);exact rfl;dsimp only;go_big_quiet_step (fail);(try with_reducible refine wpQuiet_nil ?_);(try dsimp only))
             |((with_reducible refine Ya7 ?_ ?_);exact rfl;dsimp only;go_big_quiet_step (fail);(try with_reducible refine wpQuiet_nil ?_);(try dsimp only))
            (try(refine Ya8 ?_;intro hSc hcl))
           all_goals
            refine Yb1 [6] rfl ZK ?_;simp only[List.map_cons,List.map_nil,Ld,Le];rw[HS0.out]at hSc;obtain⟨p0,p1,p2,p3,p4,p5,p6⟩:=hSc;clear hne0 hneT hcl HS0 k0 k1 k2 k3 k4 k5 k6;have hv1:=HVC.out.below p3 HVC.out.lt;have uf:=hv1.frozen 0;have hk1:=HKC.out.below p3 H2C.out.size;have h21:=H2C.out.trans (p3.mono H2C.out.size);have hv2:=hv1.set 0 (.int .i64 vy);simp at hv2;have HV2:=Lh hv2;have HK2:=Lh (hk1.set ((HM2.out.below h21).rows HI.out).1 hv1 hgv (u:=.int .i64 vy));have HB2':=Lh (h21.setCell (p:=⟨gv,0,none⟩) hgv (.int .i64 vy));clear p3 hk1 hv1 hv2 h21 p0 p1 p4 p5 y2 hy1 hyb yl;go_wp2_with fail;go_roundw
            (case rel=>exact⟨j+1,p+1,.slice Ak nk ck,by rw[HG2.out],rfl,ZN,HPP2.out,hlt,by rw[HG2.out];exact HK2.out,by rw[HG2.out];exact HV2.out,HB2'.out⟩)
            (case measure=>first|(simp[intOf];done)|(simp[intOf];omega))
         · as_aux_lemma=>
           have hd2:decide (m8 > G.2.1)=false:=decide_eq_false hgm;have HG2:=Lh (show gat k a nw m0 v l (j+1)=G by rw[YbC HY.out,HG.out,YcV HFY.out ⟨hjn,hae⟩ hgm]);have HKC:=Lh (HKR.out.below HRC.out HB.out.size);have HVC:=Lh (HV.out.below HRC.out HV.out.lt);clear hgm hjn hae HM8 HTH HFY HDYC HBYC HKR HV HB HD2;go_wp2_with fail;go_roundw
           case rel=>exact⟨j+1,p+1,.slice Ak nk ck,by rw[HG2.out],rfl,ZN,HPP2.out,hlt,by rw[HG2.out];exact HKC.out,by rw[HG2.out];exact HVC.out,H2C.out⟩
           case measure=>first|(simp[intOf];done)|(simp[intOf];omega)
       · as_aux_lemma=>
         obtain⟨wN,hwN⟩:∃wN:World,wN=wc.alloc (.cells #[.int .i64 y.op,.int .i64 y.dst,.slice A5 y.args.length n5,.int .i64 y.num] 44):=⟨_,rfl⟩;have hbN:Below wc.heap.size wc wN:=by rw[hwN];exact YO _ _
         have hrN:=HRC.out.trans (hbN.mono HRC.out.size);have h2N:=H2C.out.trans (hbN.mono H2C.out.size);obtain⟨Az,cz,wz,hrun,hKz,hbz,hkz⟩:=KRow.snoc (cs:=[.int .i64 y.op,.int .i64 y.dst,.slice A5 y.args.length n5,.int .i64 y.num]) (y:=y) (N:=wc.heap.size) (HKR.out.below hrN HB.out.size) (HM2.out.rows HI.out).1 h2N.size ZO ZO (by rw[hwN];exact BoxAt.new _ _ _) rfl ⟨_,rfl,HD2.out.turn ((tr0 h2N))⟩ (by have:=HNK.out;omega) h2N 35;rw[HNK.out]at hrun hKz
         have HG2:=Lh (show gat k a nw m0 v l (j+1)=(G.1++[y],G.2) by
          rw[YbC HY.out,HG.out];have ht:=HTH.out;cases fy with
          |none=>exact Ycs HFY.out
          |some m=>exact Ycg HFY.out (by simpa[Decidable.imp_iff_not_or]using ht))
         have HKZ:=Lh hKz;have hvz:=(hkz.blk gv ⟨_,_,HV.out.below hrN HV.out.lt,ZS⟩).trans (HV.out.below hrN HV.out.lt);have HVZ:=Lh hvz;have HBZ:=Lh (h2N.trans (hbz.mono (Nr _)));have HNK2:=Lh (show(b.insts.take (at_+1)++(G.1++[y])).length=nk+1 by rw[← List.append_assoc,List.length_append,HNK.out];rfl);clear hKz hbz hkz hvz hbN hrN h2N HKR HV HB HD2 HM8 HFY HTH;go_wp2_with(at_builtin;go_loud (rw[← hwN]);refine Yia rfl _ _ 35 rfl rfl rfl hrun ?_);go_roundw
         case rel=>exact⟨j+1,p+1,.slice Az (nk+1) cz,by rw[HG2.out],rfl,ZN,HPP2.out,hlt,by rw[HG2.out,← List.append_assoc];exact HKZ.out,by rw[HG2.out];exact HVZ.out,HBZ.out⟩
         case measure=>first|(simp[intOf];done)|(simp[intOf];omega)
    · as_aux_lemma=>
      obtain rfl:j=l.length:=by omega
      obtain rfl:p=b.insts.length:=by omega
      generalize hG:gat k a nw m0 v l l.length=G at *;have HG:=Lh hG;have hnkb:nk≤1024:=by
       have h1:=HNK.out;have h2:=Yea (k:=k) (a:=a) (n:=nw) (b:=m0) (v:=v) (l:=l) (Nr _);rw[hG]at h2;rw[List.length_append,List.length_take]at h1;omega
      have Mr:=HM2.out.below hB;have hIr:=hK.irow (Mr.rows HI.out).1 (Nat.le_trans hBs HB2.out.size) ZO hB;have hM4:=Mr.setI HI.out (N:=w2.heap.size) hIr (fun x hx c hc=>HM2.out.bound x hx c hc) (fun c hc=>hK.own hc);obtain⟨cur,hbg⟩:=(Mr.rows HI.out).2.2.2.1;have hgf:=hbg.frozen (bi*7+2);have hlx:w.heap.size≠gb:=fun e=>by have:=HGL.out;omega
      have hlv:gv≠gb:=fun e=>by omega
      obtain⟨w4,hw4⟩:∃w4:World,w4=wr.setCell ⟨gb,bi*7+2,none⟩ (.slice Ak nk ck):=⟨_,rfl⟩;rw[← hw4]at hM4;have hk4:KT [3] wr w4:=by rw[hw4];exact KT.refl.setCell hbg ZS _
      have bx4:BoxAt w4 w.heap.size #[.int .i64 (chk a v).op,.int .i64 (chk a v).dst,.slice (some ⟨ab,ao,none⟩) 2 n1,.int .i64 (chk a v).num] 44:=by rw[hw4];exact(bX2.out.below hB bX2.out.lt).other (p:=⟨gb,bi*7+2,none⟩) (fun e=>hlx e.symm) _
      have bv4:BoxAt w4 gv #[.int .i64 G.2.2] 3:=by rw[hw4];exact hV.other (p:=⟨gb,bi*7+2,none⟩) (fun e=>hlv e.symm) _
      have hB4:Below base w w4:=by rw[hw4];exact((HB2.out.trans (hB.mono HB2.out.size)).mono hBs).setCell (p:=⟨gb,bi*7+2,none⟩) hgB _
      have hd4:DInts w4 (NT [3] w4) (.slice (some ⟨ab,ao,none⟩) 2 n1) [a,v]:=HDX2.out.turn (((KT.of_below (ts:=[3]) hB).trans hk4).tr ZS);obtain⟨ab',ao',e9,la4,a40,a41⟩:=YdV hd4;cases e9;have x42:=bx4.cell 2;have x4l:=bx4.lt;have v40:=bv4.cell 0;have v4l:=bv4.lt;simp at x42 v40;have HTK:=Lh (show b.insts.take (at_+1)=b.insts.take at_++[chk a v] by rw[List.take_add_one,show b.insts[at_]?=some (chk a v) by rw[HSP.out];simp[List.length_take,Nat.min_eq_left (Nat.le_of_lt hat)]];rfl);have HM4:=Lh hM4;have HX4:=Lh bx4;have HV4:=Lh bv4;have HB4:=Lh hB4;have HD4:=Lh hd4;have HVR:Hid (0≤G.2.2∧G.2.2≤1048576):=by
       have:=OkI.var (k:=k) (x:=chk a v) (l:=l) HXO2.out HF.out HLO.out (Nr _);rw[show ith (chk a v).args 0=a from rfl,show ith (chk a v).args 1=v from rfl,HNW.out,HG.out]at this;exact this
      clear hIr Mr hK hV hM4 hk4 bx4 bv4 hB4 hd4 hbg hj hG HM2 HB2 HDX2 HG2 bX2 HAV0 HAV1 hlx hlv hB hp hlt
      go_upto_region 17 with fail
      go_loud (rw[← hw4])
      clear hw4 hgf lgr hz2
      by_cases hev:G.2.2=v
      · as_aux_lemma=>
        have hq:(G.2.2==v)=true:=by simp[hev]
        have HS:=Lh (show mrgS k (chk a v) l=([chk a v],G.1) by
         unfold mrgS;rw[HF.out];simp only[]
         rw[show ith (chk a v).args 0=a from rfl,show ith (chk a v).args 1=v from rfl,HNW.out,HG.out,if_pos hev,hev])
        clear hev
        go_quiet (fail)
        generalize hwd:w4.drewN nq=wd;have HBD:=Lh (show Below w4.heap.size w4 wd by rw[← hwd];exact YbD (Br _ _) _);clear hwd;go_wp2_with fail;go_ret;refine⟨_,HS.out.symm,ZS,⟨.slice Ak nk ck,?_⟩,HB4.out.trans (HBD.out.mono (Nat.le_trans hBs (by have:=x4l;omega)))⟩;have:=HM4.out.below HBD.out;rw[HTK.out]at this;exact this
      · as_aux_lemma=>
        have hq:(G.2.2==v)=false:=by simp[hev]
        have HEV:=Lh hev;clear hev
        go_quiet (fail)
        generalize hwd:w4.drewN nq=wd;have HBD:=Lh (show Below w4.heap.size w4 wd by rw[← hwd];exact YbD (Br _ _) _);clear hwd
        go_upto_region 19 with fail
        obtain⟨T,hT⟩:∃T,b.insts.take at_=T:=⟨_,rfl⟩;have hTl:T.length=at_:=by rw[← hT,List.length_take];omega
        have hqi:(qs.set bi (({ b with insts:=b.insts.take (at_+1)++G.1 },.slice A1p b.phis.length cp,.slice Ak nk ck):PBlock×Value×Value))[bi]?=some ({ b with insts:=b.insts.take (at_+1)++G.1 },.slice A1p b.phis.length cp,.slice Ak nk ck):=List.getElem?_set_self (List.getElem?_eq_some_iff.1 HI.out).1;have Md:=HM4.out.below HBD.out;have hys:b.insts.take (at_+1)++G.1=T++chk a v::G.1:=by rw[HTK.out,hT];simp
        rw[hys]at Md hqi;have hynk:(T++chk a v::G.1).length=nk:=by rw[← hys,HNK.out]
        obtain⟨hId,-,-,-,-,-,k2,-⟩:=Md.rows hqi;obtain⟨gk,c',A',n',hvk,hgkb,hgk,-,-,hfk,⟨curk,hck⟩,-⟩:=hId.cells (i:=at_) (by rw[List.length_append,List.length_cons];omega);rw[hynk]at hvk;simp only[Value.slice.injEq,true_and]at hvk;obtain⟨rfl,rfl⟩:=hvk;have bxd:=HX4.out.below HBD.out HX4.out.lt;have bvd:=HV4.out.below HBD.out HV4.out.lt;obtain⟨ab',ao',e9,lad,ad0,-⟩:=YdV (HD4.out.turn ((KT.of_below (ts:=[3]) HBD.out).tr ZS));cases e9;have xd2:=bxd.cell 2;have xdl:=bxd.lt;have vd0:=bvd.cell 0;have vdl:=bvd.lt;simp at xd2 vd0;have gbl:gb<wd.heap.size:=(Md.rows hqi).2.1;have hfz:=hfk (at_*4+2);have hatk:(at_:Int)<(nk:Int):=by have:=hynk;rw[List.length_append,List.length_cons]at this;omega
        have HMD:=Lh Md;have HQI:=Lh hqi;have HYN:=Lh hynk;have HTL:=Lh hTl;have HT:=Lh hT;have HCK:=Lh hck;have HVD:=Lh bvd;have HBW:=Lh (HB4.out.trans (HBD.out.mono (Nat.le_trans hBs ZO)));have HWD:=Lh (show base≤wd.heap.size from Nat.le_trans hBs ZO);clear Md hqi hynk hTl hT hys hId hck bxd bvd hfk x42 x4l v40 v4l la4 a40 a41 HBD HM4 HX4 HV4 HD4 HB4 HNK HTK;obtain⟨S0,hS0⟩:∃S0:World→Prop,S0=fun w'=>w'.cell? ⟨gb,bi*7+2,none⟩=some (.slice (some ⟨gk,0,none⟩) nk ck)∧w'.cell? ⟨w.heap.size,2,none⟩=some (.slice (some ⟨ab,ao,none⟩) 2 n1)∧w'.cell? ⟨ab,ao,none⟩=some (.int .i64 a)∧w'.cell? ⟨gv,0,none⟩=some (.int .i64 G.2.2)∧gb<w'.heap.size∧w.heap.size<w'.heap.size∧ab<w'.heap.size∧gv<w'.heap.size:=⟨_,rfl⟩
        have HS0:=Lh hS0;clear hS0;have k0:=fun xw=>(WS.at HS0 xw).1
        have k1:=fun xw=>(WS.at HS0 xw).2.1
        have k2:=fun xw=>(WS.at HS0 xw).2.2.1
        have k3:=fun xw=>(WS.at HS0 xw).2.2.2.1
        have k4:=fun xw=>(WS.at HS0 xw).2.2.2.2.1
        have k5:=fun xw=>(WS.at HS0 xw).2.2.2.2.2.1
        have k6:=fun xw=>(WS.at HS0 xw).2.2.2.2.2.2.1
        have k7:=fun xw=>(WS.at HS0 xw).2.2.2.2.2.2.2
        refine Yb0 (S:=S0) [11,12,13] ZK ?hS (fun hSc hcl=>?_)
        case hS=>
         rw[HS0.out];exact⟨ZI,ZI,ZI,ZI,ZJ,ZJ,ZJ,ZJ⟩
        have hne0:Nonempty (WS S0):=⟨⟨_,hSc⟩⟩;have hneT:Nonempty (WS (fun _=>True)):=match hne0 with|⟨x⟩=>⟨⟨x.w,trivial⟩⟩
        refine Ya5 [(0,0),(1,0),(2,0),(3,0),(4,0),(5,0),(6,0),(7,0),(8,0),(9,0),(10,1)] 3 rfl ZK (fun _ _ _ _ _ h=>h) hSc hcl ?_
        all_goals
         (try simp only[List.map_cons,List.map_nil,Ld,Le])
         repeat
          first
          |((with_reducible refine Ya6 ?_ ?_);exact rfl;dsimp only;go_big_quiet_step (fail);(try with_reducible refine wpQuiet_nil ?_);(try dsimp only))
          |((with_reducible refine Ya7 ?_ ?_);exact rfl;dsimp only;go_big_quiet_step (fail);(try with_reducible refine wpQuiet_nil ?_);(try dsimp only))
          |((with_reducible refine Ybe ?_ ?_ (fun K hK=>?_))
            exact rfl;exact rfl;dsimp only;go_simp;(try go_wp2_with(fail));refine hK.out _ _ ?hS (fun hSc=>?_)
            case hS=>
             first
             |exact hSc
             |(rw[HS0.out]at hSc ⊢;obtain⟨p0,p1,p2,p3,p4,p5,p6,p7⟩:=hSc;exact⟨ZC,ZC,ZC,ZC,ZT,ZT,ZT,ZT⟩)
            clear hK K)
         (try(refine Ya8 ?_;intro hSc hcl))
        all_goals
         refine Yb1 [11,12,13] rfl ZK ?_;simp only[List.map_cons,List.map_nil,Ld,Le];rw[HS0.out]at hSc;obtain⟨p0,p1,p2,p3,p4,p5,p6,p7⟩:=hSc;clear hne0 hneT hcl HS0 k0 k1 k2 k3 k4 k5 k6 k7;skip
        clear p0 p1 p2 p3 p4 p5 p6 p7 ad0 lad xd2 xdl vd0 vdl k2 gbl hfz;obtain⟨wA,hwA⟩:∃wA:World,wA=(wd.alloc (.cells #[.int .i64 a,.int .i64 G.2.2] 3)).drew:=⟨_,rfl⟩
        go_loud (rw[← hwA])
        have hbA:Below wd.heap.size wd wA:=by rw[hwA];exact(YO _ _).drew
        have bN:BoxAt wA wd.heap.size #[.int .i64 a,.int .i64 G.2.2] 3:=by rw[hwA];exact(BoxAt.new _ _ _).drew
        clear hwA;have MA:=HMD.out.below hbA;have hIA:=(MA.rows HQI.out).1;have hatl:at_<(T++chk a v::G.1).length:=by rw[List.length_append,List.length_cons,HTL.out];omega
        obtain⟨g',c',A'',n',hvk,-,hgkA,-,-,hfk,⟨curA,hcA⟩,-,-,j2,-,-⟩:=hIA.cells hatl;simp only[HYN.out,Value.slice.injEq,Option.some.injEq,Addr.mk.injEq,and_true,true_and]at hvk;obtain⟨rfl,rfl⟩:=hvk;have jf:=hfk (at_*4+2);have hIS:=hIA.args hatl (YiW bN);have hye:(T++chk a v::G.1)[at_]=chk a v:=by simp[List.getElem_append_right,HTL.out]
        have hset:(T++chk a v::G.1).set at_ { (T++chk a v::G.1)[at_]with args:=[a,G.2.2] }=T++chk a G.2.2::G.1:=by
         rw[hye,List.set_append_right _ _ (by rw[HTL.out];omega),HTL.out,Nat.sub_self,Lz];rfl
        rw[hset]at hIS;have hk5:Kp (fun c=>(Value.slice (some ⟨gk,0,none⟩) nk ck).ownBlock≠some c) wA (wA.setCell ⟨gk,at_*4+2,none⟩ (.slice (some ⟨wd.heap.size,0,none⟩) 2 2)):=Kp.refl.setCell (fun h=>h rfl) _;have M5:=MA.turn HQI.out hk5 hIS;rw[List.set_set]at M5
        have bv5:BoxAt (wA.setCell ⟨gk,at_*4+2,none⟩ (.slice (some ⟨wd.heap.size,0,none⟩) 2 2)) gv #[.int .i64 G.2.2] 3:=(HVD.out.below hbA HVD.out.lt).other (p:=⟨gk,at_*4+2,none⟩) (fun e=>by
         simp only at e;have h1:=HVD.out.below hbA HVD.out.lt;unfold BoxAt at h1 hcA;rw[← e,hcA]at h1
         cases h1) _
        have hB5:Below base w (wA.setCell ⟨gk,at_*4+2,none⟩ (.slice (some ⟨wd.heap.size,0,none⟩) 2 2)):=(HBW.out.trans (hbA.mono HWD.out)).setCell (p:=⟨gk,at_*4+2,none⟩) hgkb _;have yA2:=(MA.rows HQI.out).2.2.2.2.2.2.1;have gbA:=(MA.rows HQI.out).2.1;obtain⟨w5,hw5⟩:∃w5:World,w5=wA.setCell ⟨gk,at_*4+2,none⟩ (.slice (some ⟨wd.heap.size,0,none⟩) 2 2):=⟨_,rfl⟩;rw[← hw5]at M5 bv5 hB5 hIS;have hqi5:(qs.set bi (({ b with insts:=T++chk a G.2.2::G.1 },.slice A1p b.phis.length cp,.slice (some ⟨gk,0,none⟩) nk ck):PBlock×Value×Value))[bi]?=some ({ b with insts:=T++chk a G.2.2::G.1 },.slice A1p b.phis.length cp,.slice (some ⟨gk,0,none⟩) nk ck):=List.getElem?_set_self (List.getElem?_eq_some_iff.1 HI.out).1;have hKl:(T++chk a G.2.2::G.1).length=nk:=by rw[← HYN.out,List.length_append,List.length_append];rfl
        obtain⟨-,gb5,-,-,-,-,z2,-⟩:=M5.rows hqi5;have hIdx:=(hIS.sinsts (by rw[hKl];omega));obtain⟨A',c',e9,-,-,hrd⟩:=hIdx;rw[hKl]at e9;cases e9
        have hfi:=YgX (b:=⟨.empty,[],T++chk a G.2.2::G.1,default⟩) (c0:=ck) hrd (by simp only[hKl,Len];omega) (Br _ w5) 81 (.pointer (some ⟨gv,0,none⟩)) (fun y=>decide (y.dst=G.2.2)) Yow (fun y hy pv hpv w1 hb1=>by
         obtain⟨A1,c1,rfl,-⟩:=hpv.open_
         exact Yox (bv5.below hb1 bv5.lt))
        simp only[hKl]at hfi;obtain⟨idx,hidx⟩:∃idx,Yg (fun y:PInst=>decide (y.dst=G.2.2)) (T++chk a G.2.2::G.1) 0=idx:=⟨_,rfl⟩;rw[hidx]at hfi;have HIX:=Lh hidx;have HM5:=Lh M5;have HQ5:=Lh hqi5;have HB5:=Lh hB5;have HKL:=Lh hKl;have hgkz:=hgkb;clear hIS M5 hB5 hqi5 hrd hidx hKl hk5 hset hye hIA hcA hfk MA bN hbA HMD HQI HVD HBW HCK bv5
        go_upto_region 20 with fail
        go_loud (rw[← hw5])
        clear hw5 j2 jf yA2 gbA hgkA
        go_upto_region 21 with(go_at_call 72;refine hfi.mono ?_;rintro e w6 ⟨rfl,hb6⟩)
        have M6:=HM5.out.below hb6;have hB6:=HB5.out.trans (hb6.mono (Nat.le_of_lt (Nat.lt_of_le_of_lt hgB gb5)));have hO2:OnceL (T++chk a v::l):=by
         have h1:=HSP.out;rw[HT.out]at h1;rw[← h1];exact HO.out
        have hgg:G=gat k (ith (chk a v).args 0) (Yl l) m0 (ith (chk a v).args 1) l l.length:=by
         rw[show ith (chk a v).args 0=a from rfl,show ith (chk a v).args 1=v from rfl,HNW.out,HG.out]
        by_cases hix:idx<(at_:Int)
        · as_aux_lemma=>
          have hd9:decide (idx<(at_:Int))=true:=decide_eq_true hix;have HS:=Lh (Ykn hO2 HF.out hgg HVR.out.1 (by rw[show ith (chk a v).args 0=a from rfl,HIX.out,HTL.out];exact hix));have HM6:=Lh M6;have HB6:=Lh hB6;clear M6 hB6 hO2 hgg hix hfi hb6;go_wp2_with fail;go_ret;refine⟨_,HS.out.symm,ZS,⟨.slice (some ⟨gk,0,none⟩) nk ck,?_⟩,HB6.out⟩;have:=HM6.out;rw[HT.out,show ith (chk a v).args 0=a from rfl];simpa using this
        · as_aux_lemma=>
          have hd9:decide (idx<(at_:Int))=false:=decide_eq_false hix;obtain⟨c,rfl⟩:∃c:Nat,idx=(c:Int):=⟨idx.toNat,ZO⟩;obtain⟨m,A,B,hg1,hcc,hS⟩:=Yko hO2 HF.out hgg HVR.out.1 HEV.out (by rw[show ith (chk a v).args 0=a from rfl];exact HIX.out) (by rw[HTL.out];omega);rw[show ith (chk a v).args 0=a from rfl]at hS;rw[HTL.out]at hcc;obtain⟨nj,rfl⟩:∃nj,nk=nj+1:=⟨nk-1,by have:=HKL.out;rw[List.length_append,List.length_cons]at this;omega⟩;have hq6:=HQ5.out;rw[hg1]at M6 hq6;have hKl6:(T++chk a G.2.2::(A++m::B)).length=nj+1:=by rw[← hg1];exact HKL.out
          have hcl:c<(T++chk a G.2.2::(A++m::B)).length:=by rw[List.length_append,List.length_cons,List.length_append,List.length_cons,HTL.out];omega
          have hKc:(T++chk a G.2.2::(A++m::B))[c]=m:=by
           have e0:(T++chk a G.2.2::(A++m::B))=(T++chk a G.2.2::A)++m::B:=by simp
           have e1:(T++chk a G.2.2::A).length=c:=by rw[List.length_append,List.length_cons,HTL.out];omega
           have e2:((T++chk a G.2.2::A)++m::B)[c]?=some m:=by rw[List.getElem?_append_right ZO,e1,Nat.sub_self];rfl
           rw[← e0,List.getElem?_eq_getElem hcl]at e2;exact Option.some.inj e2
          obtain⟨hI6,gb6,-,-,-,-,z6,-⟩:=M6.rows hq6;obtain⟨g',c',A9,n9,hvk,-,hgk6,hnc6,-,-,⟨cur6,hcu6⟩,i0,i1,i2,i3,hd6⟩:=hI6.cells hcl;rw[hKl6]at hvk hnc6;simp only[Value.slice.injEq,Option.some.injEq,Addr.mk.injEq,and_true,true_and]at hvk;obtain⟨rfl,rfl⟩:=hvk;rw[hKc]at i0 i1 i2 i3 hd6;obtain⟨w7,hw7⟩:∃w7:World,w7=w6.alloc (.cells #[.int .i64 m.op,.int .i64 m.dst,.slice A9 m.args.length n9,.int .i64 m.num] 44):=⟨_,rfl⟩;have hb7:Below w6.heap.size w6 w7:=by rw[hw7];exact YO _ _
          have b7:BoxAt w7 w6.heap.size #[.int .i64 m.op,.int .i64 m.dst,.slice A9 m.args.length n9,.int .i64 m.num] 44:=by rw[hw7];exact BoxAt.new _ _ _
          have M7:=M6.below hb7;have hcu7:=hcu6.below hb7 hcu6.lt;have hd7:DInts w7 (NT [3] w7) (.slice A9 m.args.length n9) m.args:=hd6.turn ((KT.of_below (ts:=[3]) hb7).tr ZS);have hB7:=hB6.trans (hb7.mono (Nat.le_of_lt (Nat.lt_of_le_of_lt hgB gb6)));have hgbk:gb≠gk:=fun e=>by
           obtain⟨cb,hcb⟩:=(M7.rows hq6).2.2.2.1;rw[e]at hcb;unfold BoxAt at hcb hcu7;rw[hcu7]at hcb;cases hcb
          have hktn:∀w':World,Kp (fun b=>b≠gk) w7 w'→KT [3] w7 w':=fun w' hk=>⟨hk.size,fun b hb=>hk.blk b (fun e=>by
           obtain⟨cs,t,h1,h2⟩:=hb;rw[e]at h1;unfold BoxAt at hcu7;rw[hcu7]at h1;cases h1
           simp at h2) hb.lt⟩
          have hK1:(T++chk a G.2.2::(A++m::B)).take c++(T++chk a G.2.2::(A++m::B)).drop (c+1)=T++chk a G.2.2::(A++B):=by
           have e0:(T++chk a G.2.2::(A++m::B))=(T++chk a G.2.2::A)++m::B:=by simp
           have e1:(T++chk a G.2.2::A).length=c:=by rw[List.length_append,List.length_cons,HTL.out];omega
           rw[e0,List.take_left' e1,← e1,← List.drop_drop,List.drop_left];simp
          have hK1l:(T++chk a G.2.2::(A++B)).length=nj:=by
           rw[List.length_append,List.length_cons,List.length_append]at hKl6 ⊢;rw[List.length_cons]at hKl6;omega
          have HDEL:=Lh (show ∀w':World,Below w7.heap.size w7 w'→Calls Tryz.prog 83 #[.slice (some ⟨gk,0,none⟩) (nj+1) ck,.int .i64 (c:Int),.int .i64 ((c:Int)+1)] w' fun e w9=>e=.returned (.slice (some ⟨gk,0,none⟩) nj ck)∧IRow w9 base (.slice (some ⟨gk,0,none⟩) nj ck) (T++chk a G.2.2::(A++B))∧Kp (fun b=>b≠gk) w' w9∧Kp (fun b=>b≠gk) w7 w9 from fun w' hb'=>by
           have hI':=((M7.below hb').rows hq6).1;rw[← hKl6]at hI';have hd:=You hI' hcl (by rw[hKl6];omega);rw[hKl6,hK1]at hd;refine hd.mono ?_;rintro e w9 ⟨rfl,h1,h2⟩
           exact⟨rfl,h1,h2,(Kp.below hb' (fun _ h _=>h)).trans h2⟩)
          have HINS:=Lh (show ∀(w':World) (vb:Nat),Kp (fun b=>b≠gk) w7 w'→IRow w' base (.slice (some ⟨gk,0,none⟩) nj ck) (T++chk a G.2.2::(A++B))→BoxAt w' vb #[.int .i64 m.op,.int .i64 m.dst,.slice A9 m.args.length n9,.int .i64 m.num] 44→vb≠gk→Calls Tryz.prog 82 #[.slice (some ⟨gk,0,none⟩) nj ck,.int .i64 (at_:Int),.slice (some ⟨vb,0,none⟩) 1 1] w' fun e w9=>e=.returned (.slice (some ⟨gk,0,none⟩) (nj+1) ck)∧IRow w9 base (.slice (some ⟨gk,0,none⟩) (nj+1) ck) (T++m::chk a G.2.2::(A++B))∧Kp (fun b=>b≠gk) w7 w9 from fun w' vb hk' hI' hbx' hne'=>by
           rw[← hK1l]at hI';have hd:=Yov (i:=at_) (m:=m) hI' (by rw[List.length_append,List.length_cons,HTL.out];omega) (by rw[hK1l];exact hnc6) (by rw[hK1l];omega) hbx' rfl ⟨_,rfl,hd7.turn ((hktn w' hk').tr ZS)⟩ hne';rw[hK1l,show(T++chk a G.2.2::(A++B)).take at_++m::(T++chk a G.2.2::(A++B)).drop at_=T++m::chk a G.2.2::(A++B) by rw[List.take_left' HTL.out,List.drop_left' HTL.out]]at hd;refine hd.mono ?_;rintro e w9 ⟨rfl,h1,h2⟩
           exact⟨rfl,h1,hk'.trans h2⟩)
          have HFIN:=Lh (show ∀wE:World,IRow wE base (.slice (some ⟨gk,0,none⟩) (nj+1) ck) (T++m::chk a G.2.2::(A++B))→Kp (fun b=>b≠gk) w7 wE→(∃v',MgM F k (wE.setCell ⟨gb,bi*7+2,none⟩ (.slice (some ⟨gk,0,none⟩) (nj+1) ck)) base gw gb cap gm vv vp (qs.set bi ({ b with insts:=b.insts.take at_++[m,chk a G.2.2]++(A++B) },.slice A1p b.phis.length cp,v')))∧Below base w (wE.setCell ⟨gb,bi*7+2,none⟩ (.slice (some ⟨gk,0,none⟩) (nj+1) ck))∧wE.cell? ⟨gb,bi*7+2,none⟩=some (.slice (some ⟨gk,0,none⟩) (nj+1) ck)∧gb<wE.heap.size∧wE.frozen? ⟨gb,bi*7+2,none⟩=false from fun wE hIE hKE=>by
           have hk:Kp (fun c=>(Value.slice (some ⟨gk,0,none⟩) (nj+1) ck).ownBlock≠some c) w7 wE:=hKE.mono fun c _ h e=>h (by rw[e];rfl)
           have ME:=M7.turn hq6 hk hIE;have hqE:=List.getElem?_set_self (a:=(({ b with insts:=T++m::chk a G.2.2::(A++B) },.slice A1p b.phis.length cp,.slice (some ⟨gk,0,none⟩) (nj+1) ck):PBlock×Value×Value)) (List.getElem?_eq_some_iff.1 hq6).1;have MF:=ME.setI hqE hIE ME.bound (fun _ h=>.inl h);rw[List.set_set,List.set_set]at MF;obtain⟨-,e1,-,⟨cE,hcE⟩,-,-,e2,-⟩:=ME.rows hqE;refine⟨⟨.slice (some ⟨gk,0,none⟩) (nj+1) ck,?_⟩,?_,e2,e1,hcE.frozen _⟩
           · rw[HT.out,show T++[m,chk a G.2.2]++(A++B)=T++m::chk a G.2.2::(A++B)from ZS]
             exact MF
           · exact(hB7.trans (hKE.to_below (fun c hc e=>ZO) (Nat.le_trans hgkb (Nat.le_of_lt hcu7.lt)))).setCell (p:=⟨gb,bi*7+2,none⟩) hgB _)
          have gb7:gb<w7.heap.size:=(M7.rows hq6).2.1;have gk7:gk<w7.heap.size:=hcu7.lt;have z7:=(M7.rows hq6).2.2.2.2.2.2.1;have x70:=b7.cell 0;have x71:=b7.cell 1;have x72:=b7.cell 2;have x73:=b7.cell 3;have x7l:=b7.lt;have hxk:w6.heap.size≠gk:=fun e=>by omega
          simp at x70 x71 x72 x73;have hcn:¬c<at_:=by omega
          have hcz:(c:Int)<(nj:Int)+1:=by rw[hKl6]at hcl;omega
          have HS:=Lh hS;have HM7:=Lh M7;have HQ6:=Lh hq6;have HB7:=Lh hB7;have HCC:=Lh hcc;clear M6 M7 hB6 hB7 hO2 hgg hix hfi hb6 hb7 hg1 hS hq6 hKl6 hcl hKc hI6 hcu6 hcu7 hd6 hd7 hktn hK1 hK1l HKL HIX b7 hcc hnc6
          go_upto_region 24 with fail
          go_loud (rw[← hw7])
          clear hw7 i0 i1 i2 i3 hgk6 z6 gb6 z2 gb5;obtain⟨S0,hS0⟩:∃S0:World→Prop,S0=fun w'=>w'.cell? ⟨gb,bi*7+2,none⟩=some (.slice (some ⟨gk,0,none⟩) (nj+1) ck)∧w'.cell? ⟨w6.heap.size,0,none⟩=some (.int .i64 m.op)∧w'.cell? ⟨w6.heap.size,1,none⟩=some (.int .i64 m.dst)∧w'.cell? ⟨w6.heap.size,2,none⟩=some (.slice A9 m.args.length n9)∧w'.cell? ⟨w6.heap.size,3,none⟩=some (.int .i64 m.num)∧gb<w'.heap.size∧w6.heap.size<w'.heap.size:=⟨_,rfl⟩
          have HS0:=Lh hS0;clear hS0;have k0:=fun xw=>(WS.at HS0 xw).1
          have k1:=fun xw=>(WS.at HS0 xw).2.1
          have k2:=fun xw=>(WS.at HS0 xw).2.2.1
          have k3:=fun xw=>(WS.at HS0 xw).2.2.2.1
          have k4:=fun xw=>(WS.at HS0 xw).2.2.2.2.1
          have k5:=fun xw=>(WS.at HS0 xw).2.2.2.2.2.1
          have k6:=fun xw=>(WS.at HS0 xw).2.2.2.2.2.2
          refine Yb0 (S:=S0) [12,13,14,15] ZK ?hS (fun hSc hcl=>?_)
          case hS=>
           rw[HS0.out];exact⟨ZI,ZI,ZI,ZI,ZI,ZJ,ZJ⟩
          have hne0:Nonempty (WS S0):=⟨⟨_,hSc⟩⟩;have hneT:Nonempty (WS (fun _=>True)):=match hne0 with|⟨x⟩=>⟨⟨x.w,trivial⟩⟩
          refine Ya5 [(0,2),(1,0),(2,0),(3,0),(4,0),(5,0),(6,0),(7,0),(9,0),(10,0)] 6 rfl ZK (fun _ _ _ _ _ h=>h) hSc hcl ?_
          all_goals
           (try simp only[List.map_cons,List.map_nil,Ld,Le])
           repeat
            first
            |((with_reducible refine Ya6 ?_ ?_);exact rfl;dsimp only;go_big_quiet_step (fail);(try with_reducible refine wpQuiet_nil ?_);(try dsimp only))
            |((with_reducible refine Ya7 ?_ ?_);exact rfl;dsimp only;go_big_quiet_step (fail);(try with_reducible refine wpQuiet_nil ?_);(try dsimp only))
            |((with_reducible refine Ybe ?_ ?_ (fun K hK=>?_))
              exact rfl;exact rfl;dsimp only;go_simp;(try go_wp2_with(go_at_call 83;have hs9:=hSc;rw[HS0.out]at hs9;obtain⟨t0,t1,t2,t3,t4,t5,t6⟩:=hs9;refine(HDEL.out _ BL).mono ?_;rintro e w9 ⟨rfl,hI9,hb9,hK9⟩;have n0:=(hb9.cell (b:=gb) (o:=bi*7+2) hgbk t5).trans t0;have n1:=(hb9.cell (b:=w6.heap.size) (o:=0) hxk t6).trans t1;have n2:=(hb9.cell (b:=w6.heap.size) (o:=1) hxk t6).trans t2;have n3:=(hb9.cell (b:=w6.heap.size) (o:=2) hxk t6).trans t3;have n4:=(hb9.cell (b:=w6.heap.size) (o:=3) hxk t6).trans t4;clear t0 t1 t2 t3 t4 t5 t6));refine hK.out _ _ ?hS (fun hSc=>?_)
              case hS=>
               first
               |exact hSc
               |(rw[HS0.out]at hSc ⊢;obtain⟨p0,p1,p2,p3,p4,p5,p6⟩:=hSc;exact⟨ZC0,ZC1,ZC2,ZC3,ZC4,(by first|exact Nt p5 hb9.size|exact ZT),ZT6⟩)
              clear hK K)
           (try(refine Ya8 ?_;intro hSc hcl))
          refine Yfx 8 11 5 rfl ZK hSc hcl ?_ ?_
          all_goals
           (try simp only[Ld,Le])
           repeat
            first
            |((with_reducible refine Ya6 ?_ ?_);exact rfl;dsimp only;go_big_quiet_step (fail);(try with_reducible refine wpQuiet_nil ?_);(try dsimp only))
            |((with_reducible refine Ya7 ?_ ?_);exact rfl;dsimp only;go_big_quiet_step (fail);(try with_reducible refine wpQuiet_nil ?_);(try dsimp only))
            |((with_reducible refine Ybe ?_ ?_ (fun K hK=>?_))
              exact rfl;exact rfl;dsimp only;go_simp;(try go_wp2_with(go_at_call 83;have hs9:=hSc;rw[HS0.out]at hs9;obtain⟨t0,t1,t2,t3,t4,t5,t6⟩:=hs9;refine(HDEL.out _ BL).mono ?_;rintro e w9 ⟨rfl,hI9,hb9,hK9⟩;have n0:=(hb9.cell (b:=gb) (o:=bi*7+2) hgbk t5).trans t0;have n1:=(hb9.cell (b:=w6.heap.size) (o:=0) hxk t6).trans t1;have n2:=(hb9.cell (b:=w6.heap.size) (o:=1) hxk t6).trans t2;have n3:=(hb9.cell (b:=w6.heap.size) (o:=2) hxk t6).trans t3;have n4:=(hb9.cell (b:=w6.heap.size) (o:=3) hxk t6).trans t4;clear t0 t1 t2 t3 t4 t5 t6));refine hK.out _ _ ?hS (fun hSc=>?_)
              case hS=>
               first
               |exact hSc
               |(rw[HS0.out]at hSc ⊢;obtain⟨p0,p1,p2,p3,p4,p5,p6⟩:=hSc;exact⟨ZC0,ZC1,ZC2,ZC3,ZC4,(by first|exact Nt p5 hb9.size|exact ZT),ZT6⟩)
              clear hK K)
           (try(refine Ya8 ?_;intro hSc hcl))
          refine Ya5 [(11,1)] 4 rfl ZK (fun _ _ _ _ _ h=>h) hSc hcl ?_
          rotate_left
          refine Ya5 [(8,1)] 4 rfl ZK (fun _ _ _ _ _ h=>h) hSc hcl ?_
          rotate_left
          all_goals
           (try simp only[List.map_cons,List.map_nil,Ld,Le])
           repeat
            first
            |((with_reducible refine Ya6 ?_ ?_);exact rfl;dsimp only;go_big_quiet_step (fail);(try with_reducible refine wpQuiet_nil ?_);(try dsimp only))
            |((with_reducible refine Ya7 ?_ ?_);exact rfl;dsimp only;go_big_quiet_step (fail);(try with_reducible refine wpQuiet_nil ?_);(try dsimp only))
            |((with_reducible refine Ybe ?_ ?_ (fun K hK=>?_))
              exact rfl;exact rfl;dsimp only;go_simp;(try go_wp2_with(go_at_call 83;have hs9:=hSc;rw[HS0.out]at hs9;obtain⟨t0,t1,t2,t3,t4,t5,t6⟩:=hs9;refine(HDEL.out _ BL).mono ?_;rintro e w9 ⟨rfl,hI9,hb9,hK9⟩;have n0:=(hb9.cell (b:=gb) (o:=bi*7+2) hgbk t5).trans t0;have n1:=(hb9.cell (b:=w6.heap.size) (o:=0) hxk t6).trans t1;have n2:=(hb9.cell (b:=w6.heap.size) (o:=1) hxk t6).trans t2;have n3:=(hb9.cell (b:=w6.heap.size) (o:=2) hxk t6).trans t3;have n4:=(hb9.cell (b:=w6.heap.size) (o:=3) hxk t6).trans t4;clear t0 t1 t2 t3 t4 t5 t6));refine hK.out _ _ ?hS (fun hSc=>?_)
              case hS=>
               first
               |exact hSc
               |(rw[HS0.out]at hSc ⊢;obtain⟨p0,p1,p2,p3,p4,p5,p6⟩:=hSc;exact⟨ZC0,ZC1,ZC2,ZC3,ZC4,(by first|exact Nt p5 hb9.size|exact ZT),ZT6⟩)
              clear hK K)
           (try(refine Ya8 ?_;intro hSc hcl))
          all_goals
           refine Yb1 [12,13,14,15] rfl ZK ?_;simp only[List.map_cons,List.map_nil,Ld,Le];rw[HS0.out]at hSc;obtain⟨p0,p1,p2,p3,p4,p5,p6⟩:=hSc;clear hne0 hneT hcl HS0 k0 k1 k2 k3 k4 k5 k6
          · go_wp2_with(go_at_call 82;refine(HINS.out _ _ (hK9.alloc _) (hI9.kt (ts:=[3,44]) (KT.of_below (YO _ _)) ZS ZS) (BoxAt.new _ _ _) (by have:=hK9.size;omega)).mono ?_;rintro e wE ⟨rfl,hIE,hKE⟩;obtain⟨f1,f2,f3,f4,f5⟩:=HFIN.out _ hIE hKE;clear hIE hKE)
            go_ret;exact⟨_,HS.out.symm,ZS,f1,f2⟩
          · go_wp2_with(go_at_call 82;refine(HINS.out _ _ hK9 hI9 ((BoxAt.drew (BoxAt.new w7 _ _)).kp hb9 (fun e=>ZO)) (fun e=>ZO)).mono ?_;rintro e wE ⟨rfl,hIE,hKE⟩;obtain⟨f1,f2,f3,f4,f5⟩:=HFIN.out _ hIE hKE;clear hIE hKE)
            go_ret;exact⟨_,HS.out.symm,ZS,f1,f2⟩
end
end Go.Proofs.YtjlclkcmfokobaaGreatDoor
