/- The plain law of a single program. -/
import Derived.Test.YtjlclkcmfokobaaGreatDoorMkRowsZ
import Derived.Test.YtjlclkcmfokobaaGreatDoorNewZ
import Derived.Test.YtjlclkcmfokobaaGreatDoorJoinQZ
import Derived.Test.YtjlclkcmfokobaaGreatDoorZedZ
namespace Go.Proofs.YtjlclkcmfokobaaGreatDoor
open Go.RowKit
set_option maxRecDepth 100000
def Ybh(F:PFunc):Bool:=(List.range F.blocks.length).all fun b=>decide (b∈OR F)
noncomputable def Yak (F:PFunc):Bool:=Yai F&&Ybh F&&Yr F&&(List.range F.blocks.length).all (YH F (tabB F))
noncomputable def YaC (F:PFunc):Bool:=Yak F&&noPi F
open Classical in
noncomputable def Ys (F:PFunc) (a b:Nat):Bool:=!decide (YaZ (fun x y=>x∈PR F y) a b)
noncomputable def Ybi (F:PFunc):Bool:=Ybw F&&Yr F&&(List.range F.blocks.length).all fun i=>decide (i∈OR F)&&YH F (Ys F) i
noncomputable def YcL (F:PFunc):Bool:=noPi F&&Ybi F
theorem Ygj{F:PFunc}(hth:∀b,b<F.blocks.length→b∈OR F){v:Int}{b:Nat}{at_:Int}(hb:b<F.blocks.length):YC F (Ys F) v b at_=YC F (tabB F) v b at_:=by
 unfold YC Yba;rcases YhB (F:=F) (v:=v)with h|⟨a,ha,h⟩
 · simp[h]
 · rw[h]
   by_cases e:(a:Int)=(b:Int)
   · simp[e]
   · have h0:¬(a:Int)<0:=by omega
     simp only[if_neg h0,if_neg e,Int.toNat_natCast];rw[Bool.eq_iff_iff,Ygi];unfold Ydh Ys;have e':a≠b:=fun h=>e (by rw[h])
     simp[hth a ha,hth b hb,e']
theorem YdT{α:Type}{l:List α}{p q:α→Bool}(h:∀x∈l,p x=q x):l.all p=l.all q:=by
 induction l with
 |nil=>rfl
 |cons a r ih=>rw[List.all_cons,List.all_cons,h a ZS,ih fun x hx=>h x (by simp[hx])]
theorem YnI{F:PFunc}(hT:Yd F=true)(hth:∀b,b<F.blocks.length→b∈OR F){i:Nat}(hi:i<F.blocks.length):YH F (Ys F) i=YH F (tabB F) i:=by
 have h1:(F.blk i).phis.all (Ybt F (Ys F))=(F.blk i).phis.all (Ybt F (tabB F)):=by
  refine YdT fun p hp=>?_
  obtain⟨k,hk,rfl⟩:=List.getElem_of_mem hp;have e:(F.blk i).phi k=(F.blk i).phis[k]:=by rw[PBlock.phi,YL hk]
  have h1:=(YdI hT hi hk).1;rw[e]at h1;refine YdT fun j hj=>?_
  have hj':j<((F.blk i).phi k).froms.length:=by rw[e,← h1];simpa using hj
  have h2:=YdQ hT hi hk hj';rw[e]at h2;exact Ygj hth ZO
 have h2:(List.range (F.blk i).insts.length).all (instBe F (Ys F) i)=(List.range (F.blk i).insts.length).all (instBe F (tabB F) i):=
  YdT fun k hk=>YdT fun v hv=>Ygj hth hi
 unfold YH;rw[h1,h2];unfold Yc9;rw[Ygj hth hi]
theorem YiE{F:PFunc}:Ybh F=true↔∀b,b<F.blocks.length→b∈OR F:=by
 unfold Ybh;rw[List.all_eq_true];constructor
 · intro h b hb
   simpa using h b (by simpa using hb)
 · intro h b hb
   simpa using h b (by simpa using hb)
theorem YnJ{F:PFunc}(hT:Yd F=true):Ybi F=Yak F:=by
 unfold Ybi Yak;rw[YmK hT]
 by_cases hth:∀b,b<F.blocks.length→b∈OR F
 · rw[YiE.2 hth,Bool.and_true]
   congr 1;refine YdT fun i hi=>?_
   have hi':i<F.blocks.length:=by simpa using hi
   rw[YnI hT hth hi',decide_eq_true (hth i hi'),Bool.true_and]
 · have h1:Ybh F=false:=by
    rw[← Bool.not_eq_true];exact fun h=>hth (YiE.1 h)
   have h2:((List.range F.blocks.length).all fun i=>decide (i∈OR F)&&YH F (Ys F) i)=false:=by
    rw[← Bool.not_eq_true,List.all_eq_true];intro h;refine hth fun b hb=>?_
    have:=h b (by simpa using hb);simp only[Bool.and_eq_true,decide_eq_true_eq]at this;exact this.1
   rw[h1,h2];simp
theorem YnK{F:PFunc}(hT:Yd F=true):YcL F=YaC F:=by
 unfold YcL YaC;rw[YnJ hT,Bool.and_comm]
open Classical in
theorem YnL{F:PFunc}{L:List (Option Nat)}(t:NearOk F.blocks.length (OR F) (PR F) L){x y:Nat}:YbI (OR F) L (x:Int) (y:Int)=tabB F x y:=by
 rw[Bool.eq_iff_iff,Ygi];unfold YbI Ydh;rw[YdS,YdS];simp only[Bool.and_eq_true,decide_eq_true_eq,Int.toNat_natCast];constructor
 · rintro⟨⟨h1,h2⟩,h3⟩
   exact⟨h1,h2,.inr ((t.dom h2).1 h3)⟩
 · rintro⟨h1,h2,h3⟩
   refine⟨⟨h1,h2⟩,?_⟩;rcases h3 with rfl|h3
   · exact .refl
   · exact(t.dom h2).2 h3
theorem YiF{F:PFunc}{w:World}{tb gn gl gk gf:Nat}{L V:List (Option Nat)}(G:GrOk F.blocks.length (OR F) (PR F))(hD:TreeD w w.heap.size tb F.blocks.length (OR F) (PR F) gn gl gk gf L V)(x y:Int)(b:Nat)(at_:Int) :
 Calls Tryz.prog 151 #[.pointer (some ⟨tb,0,none⟩),.agg #[.int .i64 x,.int .i64 y],.int .i64 (b:Int),.int .i64 at_] w fun e w'=>e=.returned (.bool (Yba (tabB F) (x,y) b at_))∧Below w.heap.size w w':=by
 by_cases h0:x<0
 · have HF:=Lh (show Yba (tabB F) (x,y) b at_=true by simp[Yba,h0])
   go_enter Tryz.func151,Tryz.ntmps151;go_wp2;go_ret;exact⟨Yb HF.out.symm,BL⟩
 by_cases h1:x=(b:Int)
 · have HF:=Lh (show Yba (tabB F) (x,y) b at_=decide (y<at_) by simp only[Yba,if_neg h0,if_pos h1])
   subst h1;go_enter Tryz.func151,Tryz.ntmps151;go_wp2;go_ret;exact⟨Yb HF.out.symm,BL⟩
 · obtain⟨a,rfl⟩:∃a:Nat,x=(a:Int):=⟨x.toNat,ZO⟩
   have HF:=Lh (show Yba (tabB F) ((a:Int),y) b at_=YbI (OR F) L (a:Int) (b:Int) by simp only[Yba,if_neg h0,if_neg h1,YnL hD.near,Int.toNat_natCast]);have ho:=fun(w':World) (h:Below w.heap.size w w')=>Yiu G (hD.keep (Kept.of_below h) h.size) (a:Int) (b:Int)
   have h1':((a:Int)==(b:Int))=false:=by rw[beq_eq_false_iff_ne];exact h1
   clear hD;go_enter Tryz.func151,Tryz.ntmps151;go_wp2_with fail;refine(ho _ BL).mono ?_;rintro e w1 ⟨rfl,m,rfl⟩;go_wp2;go_ret;exact⟨Yb HF.out.symm,YbD BL _⟩
structure BeBox (w:World) (tb:Nat) (A:Option Addr) (n c:Nat) (i k:Int) (b5 b6 b7 b15:Nat):Prop where
 h5:b5<w.heap.size
 h6:b6<w.heap.size
 h7:b7<w.heap.size
 h15:b15<w.heap.size
 c5:w.cell? ⟨b5,0,none⟩=some (.pointer (some ⟨tb,0,none⟩))
 c6:w.cell? ⟨b6,0,none⟩=some (.slice A n c)
 c7:w.cell? ⟨b7,0,none⟩=some (.int .i64 i)
 c15:w.cell? ⟨b15,0,none⟩=some (.int .i64 k)
theorem BeBox.below{w w':World}{tb n c:Nat}{A:Option Addr}{i k:Int}{b5 b6 b7 b15:Nat}(h:BeBox w tb A n c i k b5 b6 b7 b15)(hb:Below w.heap.size w w'):BeBox w' tb A n c i k b5 b6 b7 b15:=
 ⟨Nt h.h5 hb.size,Nt h.h6 hb.size,Nt h.h7 hb.size,Nt h.h15 hb.size,(hb.cell (p:=⟨b5,0,none⟩) h.h5).trans h.c5,(hb.cell (p:=⟨b6,0,none⟩) h.h6).trans h.c6,(hb.cell (p:=⟨b7,0,none⟩) h.h7).trans h.c7,(hb.cell (p:=⟨b15,0,none⟩) h.h15).trans h.c15⟩
theorem YnM:∀args w,(callFunc 153 args).run Tryz.prog w=.ok (.enter 153 args) w:=fun _ _=>by kernel_rfl
set_option maxHeartbeats 4000000 in
theorem YnN{F:PFunc}{w:World}{tb gn gl gk gf b5 b6 b7 b15 c b k v:Nat}{A:Option Addr}{L V:List (Option Nat)}(G:GrOk F.blocks.length (OR F) (PR F))(hD:TreeD w w.heap.size tb F.blocks.length (OR F) (PR F) gn gl gk gf L V)
 (hX:BeBox w tb A F.vars.length c (b:Int) (k:Int) b5 b6 b7 b15) (hm:Rd w.heap.size A (Ybu F) 2 (Yb3 w)) (hv:v<F.vars.length) :
 Calls Tryz.prog 153 #[.int .i64 (v:Int),.pointer (some ⟨b5,0,none⟩),.pointer (some ⟨b6,0,none⟩),.pointer (some ⟨b7,0,none⟩),.pointer (some ⟨b15,0,none⟩)] w fun e w'=>e=.returned (.bool (!YC F (tabB F) (v:Int) b (k:Int)))∧Below w.heap.size w w':=by
 have ha:=fun(w':World) (h:Below w.heap.size w w')=>YiF G (hD.keep (Kept.of_below h) h.size) (Yi F (v:Int)).1 (Yi F (v:Int)).2 b (k:Int)
 obtain⟨g,off,rfl,hg,hp⟩:=hm v _ (YfQ hv);obtain⟨p0,p1⟩:=hp;have HA:=Lh (show Yba (tabB F) ((Yi F (v:Int)).1,(Yi F (v:Int)).2) b (k:Int)=YC F (tabB F) (v:Int) b (k:Int)from rfl);rw[HA.out]at ha;generalize YC F (tabB F) (v:Int) b (k:Int)=X at *;generalize Yi F (v:Int)=mm at *;obtain⟨x5,x6,x7,x15,y5,y6,y7,y15⟩:=hX;have hv':(v:Int)<(F.vars.length:Int):=by omega
 clear hD HA hm;go_enter Tryz.func153,Tryz.ntmps153;go_wp2;obtain⟨S0,hS0⟩:∃S0:World→Prop,S0=fun w'=>w'.cell? ⟨b5,0,none⟩=some (.pointer (some ⟨tb,0,none⟩))∧w'.cell? ⟨b6,0,none⟩=some (.slice (some ⟨g,off,none⟩) F.vars.length c)∧w'.cell? ⟨b7,0,none⟩=some (.int .i64 (b:Int))∧w'.cell? ⟨b15,0,none⟩=some (.int .i64 (k:Int))∧w'.cell? ⟨g,off+v*2,none⟩=some (.int .i64 mm.1)∧w'.cell? ⟨g,off+v*2+1,none⟩=some (.int .i64 mm.2)∧Below w.heap.size w w'∧b5<w'.heap.size∧b6<w'.heap.size∧b7<w'.heap.size∧b15<w'.heap.size∧g<w'.heap.size:=⟨_,rfl⟩
 have HS0:=Lh hS0;clear hS0;have k0:=fun xw=>(WS.at HS0 xw).1
 have k1:=fun xw=>(WS.at HS0 xw).2.1
 have k2:=fun xw=>(WS.at HS0 xw).2.2.1
 have k3:=fun xw=>(WS.at HS0 xw).2.2.2.1
 have k4:=fun xw=>(WS.at HS0 xw).2.2.2.2.1
 have k5:=fun xw=>(WS.at HS0 xw).2.2.2.2.2.1
 have k6:=fun xw=>(WS.at HS0 xw).2.2.2.2.2.2.1
 have k7:=fun xw=>(WS.at HS0 xw).2.2.2.2.2.2.2.1
 have k8:=fun xw=>(WS.at HS0 xw).2.2.2.2.2.2.2.2.1
 have k9:=fun xw=>(WS.at HS0 xw).2.2.2.2.2.2.2.2.2.1
 have k10:=fun xw=>(WS.at HS0 xw).2.2.2.2.2.2.2.2.2.2.1
 have k11:=fun xw=>(WS.at HS0 xw).2.2.2.2.2.2.2.2.2.2.2
 refine Yz (S:=S0) [0,1,2,3,4,5,6,7,8,9] ZK ZK (fun _ _ _ _ _ h=>h) ?hS (fun hSc=>?_)
 case hS=>
  rw[HS0.out];exact⟨ZI,ZI,ZI,ZI,ZI,ZI,BL,ZJ,ZJ,ZJ,ZJ,ZJ⟩
 have hne0:Nonempty (WS S0):=⟨⟨_,hSc⟩⟩;simp only[List.map_cons,List.map_nil,Ld,Le]
 repeat
  first
  |((with_reducible refine YA ?_ ?_);exact rfl;go_big_quiet_step (fail);(try with_reducible refine wpQuiet_nil ?_);(try dsimp only))
  |((with_reducible refine YF ?_ ?_ (fun K hK=>?_))
    exact rfl;exact rfl;go_simp;(try go_wp2_with(go_at_call 151;refine(ha _ BL).mono ?_;rintro e w9 ⟨rfl,hb9⟩;obtain⟨hc9,hf9⟩:=Ya hb9;have hz9:=hb9.size;(try simp at hz9)));refine hK.out _ _ ?hS (fun hSc=>?_)
    case hS=>
     first
     |exact hSc
     |(rw[HS0.out]at hSc ⊢;obtain⟨p0,p1,p2,p3,p4,p5,p6,p7,p8,p9,p10,p11⟩:=hSc;exact⟨ZC0,ZC1,ZC2,ZC3,ZC4,ZC5,ZL6,ZT7,ZT8,ZT9,(by first|exact Nt p10 hb9.size|exact ZT),(by first|exact Nt p11 hb9.size|exact ZT)⟩)
    clear hK K)
 refine YB ?_;rw[HS0.out]at hSc;obtain⟨p0,p1,p2,p3,p4,p5,p6,p7,p8,p9,p10,p11⟩:=hSc;clear hne0 HS0 k0 k1 k2 k3 k4 k5 k6 k7 k8 k9 k10 k11;go_wp2;go_ret;exact⟨rfl,ZA⟩
def Ygk(w:World)(k:FuncId)(c1 c2 c3 c4:Value)(xs:List Int)(p:Int→Bool):Prop:=
 ∀x,x∈xs→∀w1,Below w.heap.size w w1→Calls Tryz.prog k #[.int .i64 x,c1,c2,c3,c4] w1 fun e w'=>e=.returned (.bool (p x))∧Below w1.heap.size w1 w'
set_option maxHeartbeats 400000 in
theorem YnO{W w:World}{A:Option Addr}{c0:Nat}{xs:List Int}(hr:Rd W.heap.size A xs 1 (Yk W))(hl:Len xs.length)(hW:Below W.heap.size W w)(k:FuncId)(c1 c2 c3 c4:Value)(p:Int→Bool)(eg:∀args w,(callFunc k args).run Tryz.prog w=.ok (.enter k args) w)(hp:Ygk w k c1 c2 c3 c4 xs p) :
 Calls Tryz.prog 184 #[.slice A xs.length c0,.func (.func k) #[] #[c1,c2,c3,c4]] w fun e w'=>e=.returned (.int .i64 (Yg p xs 0))∧Below w.heap.size w w':=by
 unfold Len at hl;go_enter Tryz.func184,Tryz.ntmps184;go_wp2
 go_loopw[5,8] (fun _ i wr=>∃n:Nat,i=.int .i64 n∧n≤xs.length∧Below w.heap.size w wr∧Hid (Yg p xs 0=Yg p (xs.drop n) n)) (fun _ i _=>xs.length-(intOf i).toNat)
 case atStart=>exact⟨0,rfl,Nz _,Br _ _,by simp[Hid]⟩
 case round=>
  obtain⟨n,rfl,hn,hb,hf⟩:=hrel
  by_cases hlt:n<xs.length
  · obtain⟨b,off,rfl,hbs,hc⟩:=hr.int (hW.trans (hb.mono hW.size)) hlt
    have hcl:=hp _ (Ycf hlt) wr hb;have hd:=Lh (YaI hlt);cases hx:p (ith xs n)
    · rw[hx]at hcl
      have hf2:=Lh (show Yg p xs 0=Yg p (xs.drop (n+1)) (n+1) by rw[hf.out,hd.out,Yg,if_neg (by rw[hx];decide)]);clear hx;go_wp2_with(go_at_fn k;refine hcl.mono ?_;(rintro e w1 ⟨rfl,hb1⟩;obtain⟨hc1,hf1⟩:=Ya hb1;have hz1:=hb1.size;try simp at hz1;try have hy1:=Nl hz1;try have hx1:=Ns hy1;try have hw1:=Ns hx1));go_roundw
      case rel=>exact⟨n+1,ZN,ZO,BL,hf2⟩
      case measure=>simp[intOf];omega
    · rw[hx]at hcl
      have hf2:=Lh (show Yg p xs 0=n by rw[hf.out,hd.out,Yg,if_pos hx]);clear hx;go_wp2_with(go_at_fn k;refine hcl.mono ?_;(rintro e w1 ⟨rfl,hb1⟩;obtain⟨hc1,hf1⟩:=Ya hb1;have hz1:=hb1.size;try simp at hz1;try have hy1:=Nl hz1;try have hx1:=Ns hy1;try have hw1:=Ns hx1));go_ret;exact⟨Yt hf2.out.symm,BL⟩
  · have hf2:=Lh (show Yg p xs 0=-1 by rw[hf.out,List.drop_eq_nil_of_le ZO];rfl)
    go_wp2;go_ret;exact⟨Yt hf2.out.symm,hb⟩
theorem YnP{W w:World}{A:Option Addr}{c0:Nat}{xs:List Int}(hr:Rd W.heap.size A xs 1 (Yk W))(hl:Len xs.length)(hW:Below W.heap.size W w)(k:FuncId)(c1 c2 c3 c4:Value)(p:Int→Bool)(eg:∀args w,(callFunc k args).run Tryz.prog w=.ok (.enter k args) w)(hp:Ygk w k c1 c2 c3 c4 xs p) :
 Calls Tryz.prog 152 #[.slice A xs.length c0,.func (.func k) #[] #[c1,c2,c3,c4]] w fun e w'=>e=.returned (.bool (xs.any p))∧Below w.heap.size w w':=by
 have hi:=YnO (c0:=c0) hr hl hW k c1 c2 c3 c4 p eg hp;go_enter Tryz.func152,Tryz.ntmps152;go_wp2_with(go_at_call 184;refine hi.mono ?_;rintro e w1 ⟨rfl,hb⟩);go_ret;exact⟨Yam (by simp only[decide_eq_true_eq];exact Ycq p xs 0),hb⟩
theorem Ygl{w w':World}{b0 b1 b2 b3 b4:Array Value}{t0 t1 t2 t3 t4:TypeId}(hb:Below (w.heap.size+5) (((((w.alloc (.cells b0 t0)).alloc (.cells b1 t1)).alloc (.cells b2 t2)).alloc (.cells b3 t3)).alloc (.cells b4 t4)) w') :
 BoxAt w' w.heap.size b0 t0∧BoxAt w' (w.heap.size+1) b1 t1∧BoxAt w' (w.heap.size+2) b2 t2∧BoxAt w' (w.heap.size+3) b3 t3∧BoxAt w' (w.heap.size+4) b4 t4:=by
 have h0:=(((((BoxAt.new w b0 t0).alloc (.cells b1 t1)).alloc (.cells b2 t2)).alloc (.cells b3 t3)).alloc (.cells b4 t4)).below hb ZO;have h1:=(((((BoxAt.new (w.alloc (.cells b0 t0)) b1 t1)).alloc (.cells b2 t2)).alloc (.cells b3 t3)).alloc (.cells b4 t4)).below hb ZS;have h2:=((((BoxAt.new ((w.alloc (.cells b0 t0)).alloc (.cells b1 t1)) b2 t2)).alloc (.cells b3 t3)).alloc (.cells b4 t4)).below hb ZS;have h3:=(((BoxAt.new (((w.alloc (.cells b0 t0)).alloc (.cells b1 t1)).alloc (.cells b2 t2)) b3 t3)).alloc (.cells b4 t4)).below hb ZS;have h4:=(BoxAt.new ((((w.alloc (.cells b0 t0)).alloc (.cells b1 t1)).alloc (.cells b2 t2)).alloc (.cells b3 t3)) b4 t4).below hb ZS;simp only[World.size_alloc]at h1 h2 h3 h4;exact⟨h0,h1,h2,h3,h4⟩
theorem YnQ{W w:World}{A:Option Addr}{F:PFunc}(hm:Rd W.heap.size A (Ybu F) 2 (Yb3 W))(hw:Below W.heap.size W w){v:Nat}(hv:v<F.vars.length) :
 ∃g off,A=some ⟨g,off,none⟩∧g<w.heap.size∧w.cell? ⟨g,off+v*2,none⟩=some (.int .i64 (Yi F (v:Int)).1)∧w.cell? ⟨g,off+v*2+1,none⟩=some (.int .i64 (Yi F (v:Int)).2):=by
 obtain⟨g,off,rfl,hg,h0,h1⟩:=hm v _ (YfQ hv);exact⟨g,off,rfl,Nt hg hw.size,(hw.cell (p:=⟨g,off+v*2,none⟩) hg).trans h0,(hw.cell (p:=⟨g,off+v*2+1,none⟩) hg).trans h1⟩
theorem YnR{W w:World}{A:Option Addr}{xs:List (Int×Int)}(hm:Rd W.heap.size A xs 2 (Yb3 W))(hw:Below W.heap.size W w):Rd w.heap.size A xs 2 (Yb3 w):=
 hm.keep hw.size fun b o x hb hx=>by unfold Yb3 at *;rw[hw.cell (p:=⟨b,o,none⟩) hb,hw.cell (p:=⟨b,o+1,none⟩) hb];exact hx
theorem YnS{F:PFunc}{T:Nat→Nat→Bool}{i k:Nat}:((F.blk i).inst k).args.any (fun v=>!YC F T v i (k:Int))=!instBe F T i k:=by
 unfold instBe;simp[List.all_eq_not_any_not]
section
variable {F:PFunc} {T:Nat→Nat→Bool} {i k j:Nat}
theorem YiG(hk:k<(F.blk i).phis.length)(hj:j<((F.blk i).phi k).args.length)(h:pairOk F T ((F.blk i).phi k) j=false):YH F T i=false:=by
 have h1:Ybt F T ((F.blk i).phi k)=false:=YcB hj h;unfold YH;have h2:(F.blk i).phis.all (Ybt F T)=false:=by
  rw[← Bool.not_eq_true,List.all_eq_true];intro hh;have:=hh _ (Ybo hk);rw[h1]at this;cases this
 rw[h2];rfl
theorem YiH(hk:k<(F.blk i).insts.length)(h:instBe F T i k=false):YH F T i=false:=by
 unfold YH;rw[YcB hk h];simp
theorem YiI(hp:∀k,k<(F.blk i).phis.length→Ybt F T ((F.blk i).phi k)=true)(hi:∀k,k<(F.blk i).insts.length→instBe F T i k=true):YH F T i=Yc9 F T i:=by
 unfold YH;have h1:(F.blk i).phis.all (Ybt F T)=true:=by
  rw[List.all_eq_true];intro p hpm;obtain⟨k,hk,rfl⟩:=List.getElem_of_mem hpm;have:=hp k hk
  rwa [PBlock.phi,YL hk]at this
 rw[h1,YcC hi];rfl
end
set_option maxHeartbeats 16000000 in
theorem YnT{W w:World}{fv:Value}{F:PFunc}{tb gn gl gk gf c:Nat}{A:Option Addr}{L V:List (Option Nat)}(hF:FnV W W.heap.size fv F)(hW:Below W.heap.size W w)(hT:Yd F=true)
 (hD:TreeD W W.heap.size tb F.blocks.length (OR F) (PR F) gn gl gk gf L V) (hm:Rd W.heap.size A (Ybu F) 2 (Yb3 W)) (i:Nat) (hi:i<F.blocks.length) :
 Calls Tryz.prog 115 #[fv,.pointer (some ⟨tb,0,none⟩),.slice A F.vars.length c,.int .i64 (i:Int)] w fun e w'=>e=.returned (.bool (YH F (tabB F) i))∧Below w.heap.size w w':=by
 have G:=Lh (YdP hT);have hWs:=hW.size;obtain⟨n1,n2⟩:=Y1 (Yx hT);have nv:=Yb5 hT;obtain⟨A0,c0,A1,c1,A2,c2,rfl,l0,l1,l2,-,-,-,r0,r1,r2⟩:=id hF.open_;unfold Len at *;have hTD:=Lh (fun(w':World) (h:Below W.heap.size W w')=>hD.keep (Kept.of_below h) h.size);have HAH:=Lh (fun(w':World) (h:Below W.heap.size W w') (x y:Int) (b:Nat) (at_:Int)=>YiF G.out (hTD.out w' h) x y b at_);have HBE:=Lh (fun(w':World) (h:Below W.heap.size W w') (b5 b6 b7 b15 b k v:Nat) (hX:BeBox w' tb A F.vars.length c (b:Int) (k:Int) b5 b6 b7 b15) (hv:v<F.vars.length)=>YnN G.out (hTD.out w' h) hX (YnR hm h) hv);have HPH:=Lh (fun k (hk:k<(F.blk i).phis.length)=>YdI hT hi hk);have HFR:=Lh (fun k (hk:k<(F.blk i).phis.length) j (hj:j<((F.blk i).phi k).froms.length)=>YdQ hT hi hk hj);have HIN:=Lh (fun k (hk:k<(F.blk i).insts.length)=>YdJ hT hi hk);have HTM:=Lh (fun h0=>YhC hT hi h0);have HPL:=Lh (fun(w':World) (h:Below W.heap.size W w') (v:Nat) (hv:v<F.vars.length)=>YnQ hm h hv);have HBL:=Lh (fun(w':World) (h:Below W.heap.size W w') (j:Nat) (hj:j<F.blocks.length)=>r2.blk h hj);have HNP:=Lh (fun k j (hk:k<(F.blk i).phis.length) (hj:j<((F.blk i).phi k).args.length) (h:pairOk F (tabB F) ((F.blk i).phi k) j=false)=>YiG hk hj h);have HNI:=Lh (fun k (hk:k<(F.blk i).insts.length) (h:instBe F (tabB F) i k=false)=>YiH hk h);have HEN:=Lh (fun hp hq=>YiI (F:=F) (T:=tabB F) (i:=i) hp hq);have hin:(i:Int)<(F.blocks.length:Int):=by omega
 obtain⟨bb,off,A3,c3,A4,c4,rfl,hbb,hnz,hy0,hy1,hy2,hy3,hy4,hy5,hy6,l3,l4,k3,k4,r3,r4⟩:=r2.blk hW hi;unfold Len at l3 l4;have hbb1:=Nat.lt_succ_of_lt hbb;have hbb2:=Nat.lt_succ_of_lt hbb1;have hbb3:=Nat.lt_succ_of_lt hbb2;have HHM:=Lh hm;clear hm hD hT hF;go_enter Tryz.func115,Tryz.ntmps115;go_wp2
 go_loopw[25] (fun x wr=>∃k:Nat,x=.int .i64 k∧k≤(F.blk i).phis.length∧Hid (∀j,j<k→Ybt F (tabB F) ((F.blk i).phi j)=true)∧Below (w.heap.size+5) (((((w.alloc (.cells #[.slice A0 F.vars.length c0,.slice A1 F.params.length c1,.slice (some ⟨bb,off,none⟩) F.blocks.length c2] 26)).alloc (.cells #[.pointer (some ⟨tb,0,none⟩)] 93)).alloc (.cells #[.slice A F.vars.length c] 163)).alloc (.cells #[.int .i64 (i:Int)] 3)).alloc (.cells #[.string (F.blk i).name,.slice A3 (F.blk i).phis.length c3,.slice A4 (F.blk i).insts.length c4,.int .i64 (F.blk i).term.kind,.int .i64 (F.blk i).term.var,.int .i64 (F.blk i).term.t0,.int .i64 (F.blk i).term.t1] 41)) wr) (fun x _=>(F.blk i).phis.length-(intOf x).toNat)
 case atStart=>exact⟨0,rfl,Nz _,fun m hm=>absurd hm (Nat.not_lt_zero _),Br _ _⟩
 case round=>as_aux_lemma=>
  clear hy0 hy1 hy2 hy3 hy4 hy5 hy6 hnz hbb hbb1 hbb2 hbb3;obtain⟨k,rfl,hk,HK,hb⟩:=hrel;obtain⟨x0,x1,x2,x3,x4⟩:=Ygl hb;have hwr:w.heap.size+5≤wr.heap.size:=by have:=hb.size;simpa using this
  have hBr:Below w.heap.size w wr:=(((((((Br w.heap.size w).alloc (Nr _) _).alloc ZS _).alloc ZX _).alloc ZX _).alloc ZX _)).trans (hb.mono ZO);have hWi:Below W.heap.size W wr:=hW.trans (hBr.mono hWs)
  by_cases hkl:k<(F.blk i).phis.length
  · obtain⟨bp,op,A6,c6,A7,c7,rfl,hbp,hp0,hp1,hp2,l6,l7,k6,k7,r6,r7⟩:=r3.phi hWi hkl
    unfold Len at l6 l7;obtain⟨hll,-,hva⟩:=HPH.out k hkl;have hfa:=Lh (HFR.out k hkl);have hnp:=Lh (fun j hj h=>HNP.out k j hkl hj h);have hpe:=Lh (fun(h:∀j,j<((F.blk i).phi k).args.length→pairOk F (tabB F) ((F.blk i).phi k) j=true)=>show Ybt F (tabB F) ((F.blk i).phi k)=true from YcC h);have hva':=Lh hva;have hpk:=Lh (fun j=>show pairOk F (tabB F) ((F.blk i).phi k) j=YC F (tabB F) (ith ((F.blk i).phi k).args j) (ith ((F.blk i).phi k).froms j).toNat ((F.blk (ith ((F.blk i).phi k).froms j).toNat).insts.length:Int)from rfl);clear hva HPH HFR HNP;obtain⟨ph,hph⟩:∃ph,ph=(F.blk i).phi k:=⟨_,rfl⟩;rw[← hph]at hp0 hp1 hp2 l6 l7 k6 k7 r6 r7 hll hfa hnp hpe hva' hpk;have HP:=Lh hph;clear hph;have HLL:=Lh hll;have hlle:ph.args.length≤ph.froms.length:=by omega
    clear hll;obtain⟨ws,rfl⟩:∃ws:World,ws=wr:=⟨_,rfl⟩;go_wp2
    go_loopw[32] (fun x wr=>∃j:Nat,x=.int .i64 j∧j≤ph.args.length∧Hid (∀t,t<j→pairOk F (tabB F) ph t=true)∧Below (ws.heap.size+1) (ws.alloc (.cells #[.int .i64 ph.dst,.slice A6 ph.args.length c6,.slice A7 ph.froms.length c7] 76)) wr) (fun x _=>ph.args.length-(intOf x).toNat)
    case atStart=>exact⟨0,rfl,Nz _,fun m hm=>absurd hm (Nat.not_lt_zero _),Br _ _⟩
    case round=>as_aux_lemma=>
     obtain⟨j,rfl,hj,HJ,hbj⟩:=hrel;have hbs:Below ws.heap.size ws wr:=((Br _ _).alloc (Nr _) _).trans (hbj.mono (Nat.le_succ _));have hBq:Below w.heap.size w wr:=hBr.trans (hbs.mono hBr.size);have hWq:Below W.heap.size W wr:=hW.trans (hBq.mono hWs);have hb5q:=hb.trans (hbs.mono hwr);obtain⟨y0,y1,y2,-,-⟩:=Ygl hb5q;have hwq:w.heap.size+5≤wr.heap.size:=Nat.le_trans hwr hbs.size
     by_cases hjl:j<ph.args.length
     · obtain⟨b8,o8,rfl,hb8,hc8⟩:=r6.int hWq hjl
       have hjf:j<ph.froms.length:=by omega
       obtain⟨b9,o9,rfl,hb9,hc9⟩:=r7.int hWq hjf;obtain⟨z,z0,z1,z2⟩:=Yn hbj;obtain⟨hv0,hv1⟩:=hva'.out j hjl;obtain⟨hf0,hf1⟩:=hfa.out j hjf;have hpj:=hpk.out j;have hnj:=Lh (fun h=>hnp.out j hjl h);obtain⟨v,hv⟩:∃v:Nat,ith ph.args j=(v:Int):=⟨(ith ph.args j).toNat,ZO⟩;obtain⟨f,hf⟩:∃f:Nat,ith ph.froms j=(f:Int):=⟨(ith ph.froms j).toNat,ZO⟩;rw[hv]at hc8 hv1 hpj;rw[hf]at hc9 hf1 hpj;rw[Int.toNat_natCast]at hpj;obtain⟨bb1,off1,A1f,c1f,Af,cf,he,hbf,-,-,-,hz2,-,-,-,-,-,lf2,-,-,-,-⟩:=HBL.out wr hWq f ZO;cases he;unfold Len at lf2;obtain⟨g,og,rfl,hg,hm0,hm1⟩:=HPL.out wr hWq v ZO;have ha:=fun(w':World) (h:Below W.heap.size W w')=>HAH.out w' h (Yi F (v:Int)).1 (Yi F (v:Int)).2 f ((F.blk f).insts.length:Int)
       have hXX:Yba (tabB F) ((Yi F (v:Int)).1,(Yi F (v:Int)).2) f ((F.blk f).insts.length:Int)=pairOk F (tabB F) ph j:=hpj.symm;rw[hXX]at ha;clear hXX hpj hf hv;replace y0:wr.cell? ⟨w.heap.size,2,none⟩=some (.slice (some ⟨bb,off,none⟩) F.blocks.length c2):=y0.cell 2;replace y1:wr.cell? ⟨w.heap.size+1,0,none⟩=some (.pointer (some ⟨tb,0,none⟩)):=y1.cell 0;replace y2:wr.cell? ⟨w.heap.size+2,0,none⟩=some (.slice (some ⟨g,og,none⟩) F.vars.length c):=y2.cell 0;generalize (Yi F (v:Int)).1=mx at *;generalize (Yi F (v:Int)).2=my at *;generalize (F.blk f).insts.length=lf at *;have hvn:(v:Int)<(F.vars.length:Int):=by omega
       have hfn:(f:Int)<(F.blocks.length:Int):=by omega
       obtain⟨X,hX⟩:∃X,pairOk F (tabB F) ph j=X:=⟨_,rfl⟩;rw[hX]at ha;have HX:=Lh hX;clear hX hb hb5q hbs x0 x1 x2 x3 x4 hp0 hp1 hp2 HHM HBE;go_wp2_with fail;obtain⟨S0,hS0⟩:∃S0:World→Prop,S0=fun w'=>w'.cell? ⟨w.heap.size,2,none⟩=some (.slice (some ⟨bb,off,none⟩) F.blocks.length c2)∧w'.cell? ⟨w.heap.size+1,0,none⟩=some (.pointer (some ⟨tb,0,none⟩))∧w'.cell? ⟨w.heap.size+2,0,none⟩=some (.slice (some ⟨g,og,none⟩) F.vars.length c)∧w'.cell? ⟨g,og+v*2,none⟩=some (.int .i64 mx)∧w'.cell? ⟨g,og+v*2+1,none⟩=some (.int .i64 my)∧w'.cell? ⟨bb,off+f*7+2,none⟩=some (.slice Af lf cf)∧Below (ws.heap.size+1) (ws.alloc (.cells #[.int .i64 ph.dst,.slice (some ⟨b8,o8,none⟩) ph.args.length c6,.slice (some ⟨b9,o9,none⟩) ph.froms.length c7] 76)) w'∧Below W.heap.size W w'∧w.heap.size+5≤w'.heap.size∧g<w'.heap.size∧bb<w'.heap.size:=⟨_,rfl⟩
       have HS0:=Lh hS0;clear hS0;have k0:=fun xw=>(WS.at HS0 xw).1
       have k1:=fun xw=>(WS.at HS0 xw).2.1
       have k2:=fun xw=>(WS.at HS0 xw).2.2.1
       have k3:=fun xw=>(WS.at HS0 xw).2.2.2.1
       have k4:=fun xw=>(WS.at HS0 xw).2.2.2.2.1
       have k5:=fun xw=>(WS.at HS0 xw).2.2.2.2.2.1
       have k6:=fun xw=>(WS.at HS0 xw).2.2.2.2.2.2.1
       have k7:=fun xw=>(WS.at HS0 xw).2.2.2.2.2.2.2.1
       have k8:=fun xw=>(WS.at HS0 xw).2.2.2.2.2.2.2.2.1
       have k9:=fun xw=>(WS.at HS0 xw).2.2.2.2.2.2.2.2.2.1
       have k10:=fun xw=>(WS.at HS0 xw).2.2.2.2.2.2.2.2.2.2
       refine Yz (S:=S0) [0,1,2,3,4,5,6,7,8,9,10,11,12,13,14] ZK ZK (fun _ _ _ _ _ h=>h) ?hS (fun hSc=>?_)
       case hS=>
        rw[HS0.out];exact⟨ZI,ZI,ZI,ZI,ZI,ZI,BL,BL,ZJ,ZJ,ZJ⟩
       have hne0:Nonempty (WS S0):=⟨⟨_,hSc⟩⟩;simp only[List.map_cons,List.map_nil,Ld,Le]
       repeat
        first
        |((with_reducible refine YA ?_ ?_);exact rfl;go_big_quiet_step (fail);(try with_reducible refine wpQuiet_nil ?_);(try dsimp only))
        |((with_reducible refine YF ?_ ?_ (fun K hK=>?_))
          exact rfl;exact rfl;go_simp;(try go_wp2_with(go_at_call 151;refine(ha _ BL).mono ?_;rintro e w9 ⟨rfl,hb9⟩;obtain⟨hc9,hf9⟩:=Ya hb9;have hz9:=hb9.size;(try simp at hz9)));refine hK.out _ _ ?hS (fun hSc=>?_)
          case hS=>
           first
           |exact hSc
           |(rw[HS0.out]at hSc ⊢;obtain⟨p0,p1,p2,p3,p4,p5,p6,p7,p8,p9,p10⟩:=hSc;exact⟨ZC0,ZC1,ZC2,ZC3,ZC4,ZC5,ZL6,ZL7,ZT8,ZT9,(by first|exact Nt p10 hb9.size|exact ZT)⟩)
          clear hK K)
       refine YB ?_;rw[HS0.out]at hSc;obtain⟨p0,p1,p2,p3,p4,p5,p6,p7,p8,p9,p10⟩:=hSc;clear hne0 HS0 k0 k1 k2 k3 k4 k5 k6 k7 k8 k9 k10;cases X
       · as_aux_lemma=>
         have HF:=Lh (hnj.out HX.out);go_wp2;go_ret;exact⟨Yb HF.out.symm,hBr.trans ((((Br _ _).alloc (Nr _) _).trans (p6.mono (Nat.le_succ _))).mono hBr.size)⟩
       · as_aux_lemma=>
         go_wp2;go_roundw
         case rel=>exact⟨j+1,ZN,ZO,fun t ht=>if h:t<j then HJ.out t h else by
          obtain rfl:t=j:=by omega
          exact HX.out,p6⟩
         case measure=>simp[intOf];omega
     · obtain rfl:j=ph.args.length:=by omega
       have HOK:=Lh (hpe.out HJ.out);go_wp2;go_roundw
       case rel=>exact⟨k+1,ZN,ZO,fun t ht=>if h:t<k then HK.out t h else by
        obtain rfl:t=k:=by omega
        rw[← HP.out];exact HOK.out,hb5q⟩
       case measure=>simp[intOf];omega
  · obtain rfl:k=(F.blk i).phis.length:=by omega
    have x42:=x4.cell 2;have x4l:=x4.lt;replace x42:wr.cell? ⟨w.heap.size+4,2,none⟩=some (.slice A4 (F.blk i).insts.length c4):=x42;clear x0 x1 x2 x3 x4 HPH HFR HNP HBL;obtain⟨ws,rfl⟩:∃ws:World,ws=wr:=⟨_,rfl⟩;go_wp2;clear x42 x4l
    go_loopw[62] (fun x wr=>∃m:Nat,x=.int .i64 m∧m≤(F.blk i).insts.length∧Hid (∀j,j<m→instBe F (tabB F) i j=true)∧Below (w.heap.size+5) (((((w.alloc (.cells #[.slice A0 F.vars.length c0,.slice A1 F.params.length c1,.slice (some ⟨bb,off,none⟩) F.blocks.length c2] 26)).alloc (.cells #[.pointer (some ⟨tb,0,none⟩)] 93)).alloc (.cells #[.slice A F.vars.length c] 163)).alloc (.cells #[.int .i64 (i:Int)] 3)).alloc (.cells #[.string (F.blk i).name,.slice A3 (F.blk i).phis.length c3,.slice A4 (F.blk i).insts.length c4,.int .i64 (F.blk i).term.kind,.int .i64 (F.blk i).term.var,.int .i64 (F.blk i).term.t0,.int .i64 (F.blk i).term.t1] 41)) wr) (fun x _=>(F.blk i).insts.length-(intOf x).toNat)
    case atStart=>exact⟨0,rfl,Nz _,fun m hm=>absurd hm (Nat.not_lt_zero _),hb⟩
    case round=>as_aux_lemma=>
     clear hb hBr hWi hwr;obtain⟨m,rfl,hml,HM,hb⟩:=hrel;obtain⟨x0,x1,x2,x3,x4⟩:=Ygl hb;have hwr:w.heap.size+5≤wr.heap.size:=by have:=hb.size;simpa using this
     have hBr:Below w.heap.size w wr:=(((((((Br w.heap.size w).alloc (Nr _) _).alloc ZS _).alloc ZX _).alloc ZX _).alloc ZX _)).trans (hb.mono ZO);have hWi:Below W.heap.size W wr:=hW.trans (hBr.mono hWs)
     by_cases hmi:m<(F.blk i).insts.length
     · obtain⟨bp,op,A6,c6,rfl,hbp,hp0,hp1,hp2,hp3,l6,k6,r6⟩:=r4.inst hWi hmi
       obtain⟨-,hva⟩:=HIN.out m hmi;obtain⟨WB,hWB⟩:∃WB:World,WB=(wr.alloc (.cells #[.int .i64 (m:Int)] 3)).alloc (.cells #[.int .i64 ((F.blk i).inst m).op,.int .i64 ((F.blk i).inst m).dst,.slice A6 ((F.blk i).inst m).args.length c6,.int .i64 ((F.blk i).inst m).num] 44):=⟨_,rfl⟩;have hbW:Below wr.heap.size wr WB:=by subst hWB;exact BL
       have hWW:Below W.heap.size W WB:=hWi.trans (hbW.mono hWi.size);have hbox:BeBox WB tb A F.vars.length c (i:Int) (m:Int) (w.heap.size+1) (w.heap.size+2) (w.heap.size+3) wr.heap.size:=by
        have h15:BoxAt WB wr.heap.size #[.int .i64 (m:Int)] 3:=by subst hWB;exact(BoxAt.new _ _ _).alloc _
        have y1:=x1.below hbW x1.lt;have y2:=x2.below hbW x2.lt;have y3:=x3.below hbW x3.lt;exact⟨y1.lt,y2.lt,y3.lt,h15.lt,y1.cell 0,y2.cell 0,y3.cell 0,h15.cell 0⟩
       have hpr:Ygk WB 153 (.pointer (some ⟨w.heap.size+1,0,none⟩)) (.pointer (some ⟨w.heap.size+2,0,none⟩)) (.pointer (some ⟨w.heap.size+3,0,none⟩)) (.pointer (some ⟨wr.heap.size,0,none⟩)) ((F.blk i).inst m).args (fun v=>!YC F (tabB F) v i (m:Int)):=fun x hx w1 hb1=>by
        obtain⟨j,hj,rfl⟩:=List.getElem_of_mem hx;have hjv:=hva j hj;have he:ith ((F.blk i).inst m).args j=((F.blk i).inst m).args[j]:=by simp[ith,List.getD,hj]
        rw[he]at hjv;obtain⟨v,hv⟩:∃v:Nat,((F.blk i).inst m).args[j]=(v:Int):=⟨(((F.blk i).inst m).args[j]).toNat,ZO⟩;rw[hv];exact HBE.out w1 (hWW.trans (hb1.mono hWW.size)) _ _ _ _ i m v (hbox.below hb1) ZO
       have hcl:=YnP (c0:=c6) r6 l6 hWW _ _ _ _ _ _ YnM hpr;rw[YnS]at hcl;have HNM:=Lh (fun h=>HNI.out m hmi h);obtain⟨X,hX⟩:∃X,instBe F (tabB F) i m=X:=⟨_,rfl⟩;rw[hX]at hcl;have HX:=Lh hX;have HBW:=Lh hbW;subst hWB;have hp0':=hp0;clear hX hpr hbox hva x0 x1 x2 x3 x4 hWW hbW HBE HHM HIN HPL;cases X
       · as_aux_lemma=>
         have HF:=Lh (HNM.out HX.out);go_wp2_with fail;refine hcl.mono ?_;rintro e w9 ⟨rfl,hb9⟩;go_wp2;go_ret;exact⟨Yb HF.out.symm,hBr.trans ((HBW.out.trans (hb9.mono HBW.out.size)).mono hBr.size)⟩
       · as_aux_lemma=>
         go_wp2_with fail;refine hcl.mono ?_;rintro e w9 ⟨rfl,hb9⟩;go_wp2;go_roundw
         case rel=>exact⟨m+1,ZN,ZO,fun t ht=>if h:t<m then HM.out t h else by
          obtain rfl:t=m:=by omega
          exact HX.out,hb.trans ((HBW.out.trans (hb9.mono HBW.out.size)).mono hwr)⟩
         case measure=>simp[intOf];omega
     · obtain rfl:m=(F.blk i).insts.length:=by omega
       have HE:=Lh (HEN.out HK.out HM.out);have HTD:=Lh (show Yc9 F (tabB F) i=(decide ((F.blk i).term.kind=0)||YC F (tabB F) (F.blk i).term.var i ((F.blk i).insts.length:Int))from rfl);have q1:wr.cell? ⟨w.heap.size+1,0,none⟩=some (.pointer (some ⟨tb,0,none⟩)):=x1.cell 0;have q2:wr.cell? ⟨w.heap.size+2,0,none⟩=some (.slice A F.vars.length c):=x2.cell 0;have q3:wr.cell? ⟨w.heap.size+3,0,none⟩=some (.int .i64 (i:Int)):=x3.cell 0;have q42:wr.cell? ⟨w.heap.size+4,2,none⟩=some (.slice A4 (F.blk i).insts.length c4):=x4.cell 2;have q43:wr.cell? ⟨w.heap.size+4,3,none⟩=some (.int .i64 (F.blk i).term.kind):=x4.cell 3;have q44:wr.cell? ⟨w.heap.size+4,4,none⟩=some (.int .i64 (F.blk i).term.var):=x4.cell 4;obtain⟨il,hil⟩:∃il,il=(F.blk i).insts.length:=⟨_,rfl⟩;rw[← hil]at HTD q42;have HILL:=Lh hil;clear hil x0 x1 x2 x3 x4 HBE HIN HNI HEN HHM hb
       by_cases hk0:(F.blk i).term.kind=0
       · have HF:=Lh (show YH F (tabB F) i=true by rw[HE.out,HTD.out,decide_eq_true hk0];rfl)
         generalize (F.blk i).term.kind=kd at *;generalize (F.blk i).term.var=tv at *;have hk1:(kd==0)=true:=by simp[hk0]
         clear hk0 HTD HE;go_wp2;obtain⟨S0,hS0⟩:∃S0:World→Prop,S0=fun w'=>w'.cell? ⟨w.heap.size+1,0,none⟩=some (.pointer (some ⟨tb,0,none⟩))∧w'.cell? ⟨w.heap.size+2,0,none⟩=some (.slice A F.vars.length c)∧w'.cell? ⟨w.heap.size+3,0,none⟩=some (.int .i64 (i:Int))∧w'.cell? ⟨w.heap.size+4,2,none⟩=some (.slice A4 il c4)∧w'.cell? ⟨w.heap.size+4,3,none⟩=some (.int .i64 kd)∧w'.cell? ⟨w.heap.size+4,4,none⟩=some (.int .i64 tv)∧Below w.heap.size w w'∧Below W.heap.size W w'∧w.heap.size+5≤w'.heap.size:=⟨_,rfl⟩
         have HS0:=Lh hS0;clear hS0;have k0:=fun xw=>(WS.at HS0 xw).1
         have k1:=fun xw=>(WS.at HS0 xw).2.1
         have k2:=fun xw=>(WS.at HS0 xw).2.2.1
         have k3:=fun xw=>(WS.at HS0 xw).2.2.2.1
         have k4:=fun xw=>(WS.at HS0 xw).2.2.2.2.1
         have k5:=fun xw=>(WS.at HS0 xw).2.2.2.2.2.1
         have k6:=fun xw=>(WS.at HS0 xw).2.2.2.2.2.2.1
         have k7:=fun xw=>(WS.at HS0 xw).2.2.2.2.2.2.2.1
         have k8:=fun xw=>(WS.at HS0 xw).2.2.2.2.2.2.2.2
         refine Yz (S:=S0) [0,1,2,3,4,5,6,7,8,9,10,11,12,13,14,15,16,17,18] ZK ZK (fun _ _ _ _ _ h=>h) ?hS (fun hSc=>?_)
         case hS=>
          rw[HS0.out];exact⟨ZI,ZI,ZI,ZI,ZI,ZI,BL,BL,ZJ⟩
         have hne0:Nonempty (WS S0):=⟨⟨_,hSc⟩⟩;simp only[List.map_cons,List.map_nil,Ld,Le]
         repeat
          first
          |((with_reducible refine YA ?_ ?_);exact rfl;go_big_quiet_step (fail);(try with_reducible refine wpQuiet_nil ?_);(try dsimp only))
          |((with_reducible refine Ydo ?_ ?_);exact rfl;simp only[Act.put,La,Lz,Lc])
         refine YB ?_;rw[HS0.out]at hSc;obtain⟨p0,p1,p2,p3,p4,p5,p6,p7,p8⟩:=hSc;clear hne0 HS0 k0 k1 k2 k3 k4 k5 k6 k7 k8;go_wp2;go_ret;exact⟨Yb HF.out.symm,ZA⟩
       · obtain⟨hv0,hv1⟩:=HTM.out hk0
         obtain⟨v,hv⟩:∃v:Nat,(F.blk i).term.var=(v:Int):=⟨(F.blk i).term.var.toNat,ZO⟩;rw[hv]at q44 hv1 HTD;obtain⟨g,og,rfl,hg,hm0,hm1⟩:=HPL.out wr hWi v ZO;have ha:=fun(w':World) (h:Below W.heap.size W w')=>HAH.out w' h (Yi F (v:Int)).1 (Yi F (v:Int)).2 i (il:Int)
         have hXX:Yba (tabB F) ((Yi F (v:Int)).1,(Yi F (v:Int)).2) i (il:Int)=YH F (tabB F) i:=by rw[HE.out,HTD.out,decide_eq_false hk0,Bool.false_or];rfl
         rw[hXX]at ha;clear hXX hv HTD HE HTM HPL HAH;obtain⟨X,hX⟩:∃X,YH F (tabB F) i=X:=⟨_,rfl⟩;rw[hX]at ha;have HX:=Lh hX;clear hX;generalize (Yi F (v:Int)).1=mx at *;generalize (Yi F (v:Int)).2=my at *;generalize (F.blk i).term.kind=kd at *;have hk1:(kd==0)=false:=by simp[hk0]
         have hvn:(v:Int)<(F.vars.length:Int):=by omega
         clear hk0;go_wp2;obtain⟨S0,hS0⟩:∃S0:World→Prop,S0=fun w'=>w'.cell? ⟨w.heap.size+1,0,none⟩=some (.pointer (some ⟨tb,0,none⟩))∧w'.cell? ⟨w.heap.size+2,0,none⟩=some (.slice (some ⟨g,og,none⟩) F.vars.length c)∧w'.cell? ⟨w.heap.size+3,0,none⟩=some (.int .i64 (i:Int))∧w'.cell? ⟨w.heap.size+4,2,none⟩=some (.slice A4 il c4)∧w'.cell? ⟨w.heap.size+4,3,none⟩=some (.int .i64 kd)∧w'.cell? ⟨w.heap.size+4,4,none⟩=some (.int .i64 (v:Int))∧w'.cell? ⟨g,og+v*2,none⟩=some (.int .i64 mx)∧w'.cell? ⟨g,og+v*2+1,none⟩=some (.int .i64 my)∧Below w.heap.size w w'∧Below W.heap.size W w'∧w.heap.size+5≤w'.heap.size∧g<w'.heap.size:=⟨_,rfl⟩
         have HS0:=Lh hS0;clear hS0;have k0:=fun xw=>(WS.at HS0 xw).1
         have k1:=fun xw=>(WS.at HS0 xw).2.1
         have k2:=fun xw=>(WS.at HS0 xw).2.2.1
         have k3:=fun xw=>(WS.at HS0 xw).2.2.2.1
         have k4:=fun xw=>(WS.at HS0 xw).2.2.2.2.1
         have k5:=fun xw=>(WS.at HS0 xw).2.2.2.2.2.1
         have k6:=fun xw=>(WS.at HS0 xw).2.2.2.2.2.2.1
         have k7:=fun xw=>(WS.at HS0 xw).2.2.2.2.2.2.2.1
         have k8:=fun xw=>(WS.at HS0 xw).2.2.2.2.2.2.2.2.1
         have k9:=fun xw=>(WS.at HS0 xw).2.2.2.2.2.2.2.2.2.1
         have k10:=fun xw=>(WS.at HS0 xw).2.2.2.2.2.2.2.2.2.2.1
         have k11:=fun xw=>(WS.at HS0 xw).2.2.2.2.2.2.2.2.2.2.2
         refine Yz (S:=S0) [0,1,2,3,4,5,6,7,8,9,10,11,12,13,14,15,16,17,18] ZK ZK (fun _ _ _ _ _ h=>h) ?hS (fun hSc=>?_)
         case hS=>
          rw[HS0.out];exact⟨ZI,ZI,ZI,ZI,ZI,ZI,ZI,ZI,BL,BL,ZJ,ZJ⟩
         have hne0:Nonempty (WS S0):=⟨⟨_,hSc⟩⟩;simp only[List.map_cons,List.map_nil,Ld,Le]
         repeat
          first
          |((with_reducible refine YA ?_ ?_);exact rfl;go_big_quiet_step (fail);(try with_reducible refine wpQuiet_nil ?_);(try dsimp only))
          |((with_reducible refine YF ?_ ?_ (fun K hK=>?_))
            exact rfl;exact rfl;go_simp;(try go_wp2_with(go_at_call 151;refine(ha _ BL).mono ?_;rintro e w9 ⟨rfl,hb9⟩;obtain⟨hc9,hf9⟩:=Ya hb9;have hz9:=hb9.size;(try simp at hz9)));refine hK.out _ _ ?hS (fun hSc=>?_)
            case hS=>
             first
             |exact hSc
             |(rw[HS0.out]at hSc ⊢;obtain⟨p0,p1,p2,p3,p4,p5,p6,p7,p8,p9,p10,p11⟩:=hSc;exact⟨ZC0,ZC1,ZC2,ZC3,ZC4,ZC5,ZC6,(by first|exact(hc9 _ _ ZB).trans p7|exact ZC),(by first|exact p8.trans (hb9.mono (by have:=p8.size;first|omega|(simp at this ⊢;omega)))|exact BL),(by first|exact p9.trans (hb9.mono (by have:=p9.size;first|omega|(simp at this ⊢;omega)))|exact BL),(by first|exact Nt p10 hb9.size|exact ZT),(by first|exact Nt p11 hb9.size|exact ZT)⟩)
            clear hK K)
         refine YB ?_;rw[HS0.out]at hSc;obtain⟨p0,p1,p2,p3,p4,p5,p6,p7,p8,p9,p10,p11⟩:=hSc;clear hne0 HS0 k0 k1 k2 k3 k4 k5 k6 k7 k8 k9 k10 k11;go_wp2;go_ret;exact⟨Yb HX.out.symm,ZA⟩
end Go.Proofs.YtjlclkcmfokobaaGreatDoor
