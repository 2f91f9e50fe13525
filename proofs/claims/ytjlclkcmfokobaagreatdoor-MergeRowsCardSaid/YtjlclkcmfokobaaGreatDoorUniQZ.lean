/- From what an argument reads as to what lies in memory: a program, an end. -/
import Derived.Test.YtjlclkcmfokobaaGreatDoorTypedZ
import Derived.Deep.Slices
import Derived.Deep.Strs
import Derived.OpenShut
import Derived.Lib.SmallJoins
import Derived.Test.YtjlclkcmfokobaaGreatDoorRows
import Derived.Test.YtjlclkcmfokobaaGreatDoorTie
import Derived.PinnedBridge
import Derived.Lay
import Derived.Lib.LaidRTab
import Derived.SizedLaws
namespace Go.Proofs.YtjlclkcmfokobaaGreatDoor
open Go.RowKit Go.Deep Go.ChangeShapes Go.WideShapes
set_option maxRecDepth 100000
section
variable {H:Type} {enc:TypeId×Value→H} {W:World} {sp:Nat→Bool} {held:Bool}
theorem Ynd{a:Addr}{n:Nat}{cs:List Value}(h:W.cells? 0 (a.add (0*n)) n=some cs)(hn:0<n):∃b off,a=⟨b,off,none⟩:=by
 obtain⟨-,hl,hc⟩:=World.cells?_some h;obtain⟨b,off,spot⟩:=a;have h0:=hc 0 hn;rw[List.getElem?_eq_getElem ZO]at h0;have hs:spot=none:=by simpa[Addr.add]using World.cell?_spot h0
 subst hs;exact⟨b,off,rfl⟩
theorem Yne{b off k n:Nat}{cs:List Value}(h:W.cells? 0 ((⟨b,off,none⟩:Addr).add k) n=some cs)(hn:0<n):b<W.heap.size∧cs.length=n∧∀j,j<n→W.cell? ⟨b,off+k+j,none⟩=cs[j]?:=by
 obtain⟨-,hl,hc⟩:=World.cells?_some h;refine⟨?_,hl,fun j hj=>?_⟩
 · have h0:=hc 0 hn
   rw[List.getElem?_eq_getElem ZO,Addr.add_lit,Addr.add_lit]at h0;exact World.block_lt_of_cell? _ _ h0
 · have:=hc j hj
   rw[Addr.add_lit,Addr.add_lit]at this;exact this
def Wt(t:TypeId)(d:DataW H):Prop:=∀x∈d.weights Tryz.prog t,x≤reachBytes
theorem Yin{e:TypeId}{x:Nat}:∀{l:List (DataW H)} {d:DataW H},d∈l→x∈d.weights Tryz.prog e→x∈DataW.weightsAll Tryz.prog e l
 |c::r,d,hd,hx=>by
  unfold DataW.weightsAll;rcases List.mem_cons.1 hd with rfl|hd
  · exact List.mem_append_left _ hx
  · exact List.mem_append_right _ (Yin hd hx)
theorem Wt.slice{t e:TypeId}{l r:List (DataW H)}(ht:(Tryz.prog).underlying t=some (.slice e))(h:Wt t (.slice l r))(hb:8≤(Tryz.prog).bytesOf e):l.length≤281474976710656∧∀d∈l,Wt e d:=by
 unfold Wt at h;simp only[DataW.weights,ht]at h;refine⟨?_,fun d hd x hx=>h x (List.mem_cons_of_mem _ (List.mem_append_left _ (Yin hd hx)))⟩;have h0:=h _ (List.mem_cons_self ..);unfold reachBytes at h0;have h1:l.length*8≤(l.length+r.length)*(Tryz.prog).bytesOf e:=Nat.mul_le_mul ZO hb;omega
theorem Wt.struct{t:TypeId}{fs:Array Field}{l:List (DataW H)}(ht:(Tryz.prog).underlying t=some (.struct fs))(h:Wt t (.agg l)):∀x∈DataW.weightsEach Tryz.prog (fs.toList.map (·.type)) l,x≤reachBytes:=by
 unfold Wt at h;simpa only[DataW.weights,ht]using h
theorem YcK{α:Type}[Inhabited α]{t e:TypeId}{sz:Nat}(ht:(Tryz.prog).underlying t=some (.slice e))(hc:(Tryz.prog).cellsOf e=sz)(hsz:0<sz)(hbz:8≤(Tryz.prog).bytesOf e)(R:Nat→Nat→α→Prop)
 (hel:∀b off cs n y,b<W.heap.size→cs.length=sz→(∀j,j<sz→W.cell? ⟨b,off+j,none⟩=cs[j]?)→DataW.trod enc Tryz.prog W 0 sp held n e cs=some y→Wt e y.1→∃x,R b off x)
 {fuel:Nat} {v:Value} {y:DataW H×List MemPlace} (h:DataW.trod enc Tryz.prog W 0 sp held fuel t [v]=some y) (hw:Wt t y.1):∃xs,Sl W.heap.size v xs sz R:=by
 rcases open_slice ht h with⟨h1,-⟩|⟨a,len,cap,m,n,D,Pl,h1,-,h2,h3,h4,hy,h5⟩
 · simp only[List.cons.injEq,and_true]at h1
   subst h1;exact⟨[],none,0,rfl,by simp[Len],Nr _,fun i x hx=>by simp at hx⟩
 · simp only[List.cons.injEq,and_true]at h1
   subst h1;have hle:len≤m:=by rw[h4];split<;>omega
   subst hy;obtain⟨w1,w2⟩:=Wt.slice ht hw hbz;simp only[List.length_map,List.length_range]at w1
   obtain⟨f,hf⟩:=choose_lt (α:=α) (n:=len) (p:=fun i x=>∃b off,a=⟨b,off,none⟩∧b<W.heap.size∧R b (off+i*sz) x) (fun i hi=>by
    obtain⟨cs,c1,c2⟩:=h5 i ZO;rw[hc]at c1;obtain⟨cs0,d1,-⟩:=h5 0 ZO;rw[hc]at d1;obtain⟨b,off,rfl⟩:=Ynd d1 hsz;obtain⟨hb,hl,hcell⟩:=Yne c1 hsz;obtain⟨x,hx⟩:=hel b (off+i*sz) cs n _ hb hl hcell c2 (w2 _ (List.mem_map.2 ⟨i,List.mem_range.2 hi,rfl⟩))
    exact⟨x,b,off,rfl,hb,hx⟩)
   refine⟨(List.range len).map f,some a,cap,ZS,by unfold Len;simpa using w1,by simpa using h2,fun i x hx=>?_⟩;have hi:i<len:=by simpa using(List.getElem?_eq_some_iff.1 hx).1
   have hx':x=f i:=by
    rw[List.getElem?_map,List.getElem?_range hi]at hx;exact(Option.some.inj hx).symm
   subst hx';obtain⟨b,off,rfl,hb,hr⟩:=hf i hi;exact⟨b,off,rfl,hb,hr⟩
theorem Tryz.cells1:(Tryz.prog).cellsOf 3=1∧(Tryz.prog).cellsOf 9=1∧(Tryz.prog).cellsOf 48=1∧(Tryz.prog).cellsOf 23=1∧(Tryz.prog).cellsOf 42=1∧(Tryz.prog).cellsOf 2=1∧(Tryz.prog).cellsOf 34=1∧(Tryz.prog).cellsOf 35=1∧(Tryz.prog).cellsOf 36=1∧(Tryz.prog).cellsOf 22=1∧(Tryz.prog).cellsOf 24=1:=by
 refine⟨?_,?_,?_,?_,?_,?_,?_,?_,?_,?_,?_⟩<;>kernel_rfl
theorem Tryz.cellsN:(Tryz.prog).cellsOf 50=2∧(Tryz.prog).cellsOf 76=3∧(Tryz.prog).cellsOf 44=4∧(Tryz.prog).cellsOf 39=4∧(Tryz.prog).cellsOf 37=2∧(Tryz.prog).cellsOf 41=7∧(Tryz.prog).cellsOf 26=3:=by
 refine⟨?_,?_,?_,?_,?_,?_,?_⟩<;>kernel_rfl
theorem Tryz.bytes8:8≤(Tryz.prog).bytesOf 3∧8≤(Tryz.prog).bytesOf 50∧8≤(Tryz.prog).bytesOf 76∧8≤(Tryz.prog).bytesOf 44∧8≤(Tryz.prog).bytesOf 41:=by
 refine⟨?_,?_,?_,?_,?_⟩<;>exact of_decide_eq_true ZK
theorem Ydf{fuel:Nat}{v:Value}{y:DataW H×List MemPlace}(h:DataW.trod enc Tryz.prog W 0 sp held fuel 23 [v]=some y)(hw:Wt 23 y.1):∃xs,SInts W W.heap.size v xs:=by
 refine YcK Tryz.underlying23 Tryz.cells1.1 ZD Tryz.bytes8.1 (Yk W) (fun b off cs n y _ _ hcell hy _=>?_) h hw;obtain⟨x,rfl,-,-⟩:=DataW.trod_int Tryz.underlying3 hy;exact⟨x,hcell 0 ZD⟩
theorem Yio{fuel:Nat}{v:Value}{y:DataW H×List MemPlace}(h:DataW.trod enc Tryz.prog W 0 sp held fuel 22 [v]=some y)(hw:Wt 22 y.1):∃xs,SVars W W.heap.size v xs:=by
 refine YcK Tryz.underlying22 Tryz.cellsN.1 ZD Tryz.bytes8.2.1 (Ycd W) (fun b off cs n y _ hl hcell hy _=>?_) h hw;obtain⟨y0,y1,m,-,-,h0,h1⟩:=trod_struct2 Tryz.underlying50 hy
 match cs,hl with
 |[c0,c1],_=>
  simp only[Tryz.cells1.2.1,List.drop_zero,List.take_succ_cons,List.take_zero]at h0;simp only[Tryz.cells1.2.2.1,List.drop_succ_cons,List.drop_zero,List.take_succ_cons,List.take_zero]at h1;obtain⟨s,e0,-,hs⟩:=DataW.trod_string Tryz.underlying9 h0;obtain⟨t,e1,-,-⟩:=DataW.trod_int Tryz.underlying48 h1;simp only[List.cons.injEq,and_true]at e0 e1;subst e0 e1;exact⟨⟨s,t⟩,hs,hcell 0 ZD,hcell 1 ZD⟩
theorem Yip{fuel:Nat}{v:Value}{y:DataW H×List MemPlace}(h:DataW.trod enc Tryz.prog W 0 sp held fuel 34 [v]=some y)(hw:Wt 34 y.1):∃xs,SPhis W W.heap.size v xs:=by
 refine YcK Tryz.underlying34 Tryz.cellsN.2.1 ZD Tryz.bytes8.2.2.1 (PhiC W W.heap.size) (fun b off cs n y _ hl hcell hy hw=>?_) h hw;obtain⟨y0,y1,y2,m,hx,-,h0,h1,h2⟩:=trod_struct3 Tryz.underlying76 hy;rw[hx]at hw;replace hw:=hw.struct Tryz.underlying76;simp only[List.map_cons,List.map_nil,DataW.weightsEach,List.append_nil]at hw
 match cs,hl with
 |[c0,c1,c2],_=>
  simp only[Tryz.cells1.1,List.drop_zero,List.take_succ_cons,List.take_zero]at h0;simp only[Tryz.cells1.2.2.2.1,List.drop_succ_cons,List.drop_zero,List.take_succ_cons,List.take_zero]at h1 h2;obtain⟨d,e0,-,-⟩:=DataW.trod_int Tryz.underlying3 h0;simp only[List.cons.injEq,and_true]at e0;subst e0;obtain⟨al,ha⟩:=Ydf h1 (fun x hx=>hw x (List.mem_append_right _ (List.mem_append_left _ hx)));obtain⟨fs,hf⟩:=Ydf h2 (fun x hx=>hw x (List.mem_append_right _ (List.mem_append_right _ hx)));exact⟨⟨d,al,fs⟩,hcell 0 ZD,⟨_,hcell 1 ZD,ha⟩,_,hcell 2 ZD,hf⟩
theorem Ynf{fuel:Nat}{v:Value}{y:DataW H×List MemPlace}(h:DataW.trod enc Tryz.prog W 0 sp held fuel 35 [v]=some y)(hw:Wt 35 y.1):∃xs,SInsts W W.heap.size v xs:=by
 refine YcK Tryz.underlying35 Tryz.cellsN.2.2.1 ZD Tryz.bytes8.2.2.2.1 (InstC W W.heap.size) (fun b off cs n y _ hl hcell hy hw=>?_) h hw;obtain⟨y0,y1,y2,y3,m,hx,-,h0,h1,h2,h3⟩:=Joins.trod_struct4 Tryz.underlying44 hy;rw[hx]at hw;replace hw:=hw.struct Tryz.underlying44;simp only[List.map_cons,List.map_nil,DataW.weightsEach,List.append_nil]at hw
 match cs,hl with
 |[c0,c1,c2,c3],_=>
  simp only[Tryz.cells1.2.2.2.2.1,List.drop_zero,List.take_succ_cons,List.take_zero]at h0;simp only[Tryz.cells1.1,List.drop_succ_cons,List.drop_zero,List.take_succ_cons,List.take_zero]at h1;simp only[Tryz.cells1.2.2.2.1,List.drop_succ_cons,List.drop_zero,List.take_succ_cons,List.take_zero]at h2;simp only[Tryz.cells1.2.2.2.2.2.1,List.drop_succ_cons,List.drop_zero,List.take_succ_cons,List.take_zero]at h3;obtain⟨o,e0,-,-⟩:=DataW.trod_int Tryz.underlying42 h0;obtain⟨d,e1,-,-⟩:=DataW.trod_int Tryz.underlying3 h1;obtain⟨k,e3,-,-⟩:=DataW.trod_int Tryz.underlying2 h3;simp only[List.cons.injEq,and_true]at e0 e1 e3;subst e0 e1 e3;obtain⟨al,ha⟩:=Ydf h2 (fun x hx=>hw x (List.mem_append_right _ (List.mem_append_right _ (List.mem_append_left _ hx))));exact⟨⟨o,d,al,k⟩,hcell 0 ZD,hcell 1 ZD,⟨_,hcell 2 ZD,ha⟩,hcell 3 ZD⟩
theorem Ygg{fuel:Nat}{c0 c1 c2 c3:Value}{y:DataW H×List MemPlace}(h:DataW.trod enc Tryz.prog W 0 sp held fuel 39 [c0,c1,c2,c3]=some y) :
 ∃t:PTerm,c0=.int .i64 t.kind∧c1=.int .i64 t.var∧c2=.int .i64 t.t0∧c3=.int .i64 t.t1:=by
 obtain⟨y0,y1,y2,m,-,-,h0,h1,h2⟩:=trod_struct3 Tryz.underlying39 h;simp only[Tryz.cells1.2.2.2.2.2.2.2.2.1,List.drop_zero,List.take_succ_cons,List.take_zero]at h0;simp only[Tryz.cells1.1,List.drop_succ_cons,List.drop_zero,List.take_succ_cons,List.take_zero]at h1;simp only[Tryz.cellsN.2.2.2.2.1,List.drop_succ_cons,List.drop_zero,List.take_succ_cons,List.take_zero]at h2;obtain⟨xs,m',-,-,-,hxl,hx⟩:=DataW.trod_array Tryz.underlying37 h2;have g0:=hx 0 ZD;have g1:=hx 1 ZD;rw[List.getElem?_eq_getElem ZO]at g0 g1;simp only[Tryz.cells1.1,Nat.zero_mul,Nat.one_mul,List.drop_succ_cons,List.drop_zero,List.take_succ_cons,List.take_zero]at g0 g1;obtain⟨k,e0,-,-⟩:=DataW.trod_int Tryz.underlying36 h0;obtain⟨v,e1,-,-⟩:=DataW.trod_int Tryz.underlying3 h1;obtain⟨a,e2,-,-⟩:=DataW.trod_int Tryz.underlying3 g0;obtain⟨b,e3,-,-⟩:=DataW.trod_int Tryz.underlying3 g1;simp only[List.cons.injEq,and_true]at e0 e1 e2 e3;exact⟨⟨k,v,a,b⟩,e0,e1,e2,e3⟩
theorem Yng{fuel:Nat}{v:Value}{y:DataW H×List MemPlace}(h:DataW.trod enc Tryz.prog W 0 sp held fuel 24 [v]=some y)(hw:Wt 24 y.1):∃xs,SBlks W W.heap.size v xs:=by
 refine YcK Tryz.underlying24 Tryz.cellsN.2.2.2.2.2.1 ZD Tryz.bytes8.2.2.2.2 (BlkC W W.heap.size) (fun b off cs n y _ hl hcell hy hw=>?_) h hw;obtain⟨y0,y1,y2,y3,m,hx,-,h0,h1,h2,h3⟩:=Joins.trod_struct4 Tryz.underlying41 hy;rw[hx]at hw;replace hw:=hw.struct Tryz.underlying41;simp only[List.map_cons,List.map_nil,DataW.weightsEach,List.append_nil]at hw
 match cs,hl with
 |[c0,c1,c2,c3,c4,c5,c6],_=>
  simp only[Tryz.cells1.2.1,List.drop_zero,List.take_succ_cons,List.take_zero]at h0;simp only[Tryz.cells1.2.2.2.2.2.2.1,List.drop_succ_cons,List.drop_zero,List.take_succ_cons,List.take_zero]at h1;simp only[Tryz.cells1.2.2.2.2.2.2.2.1,List.drop_succ_cons,List.drop_zero,List.take_succ_cons,List.take_zero]at h2;simp only[Tryz.cellsN.2.2.2.1,List.drop_succ_cons,List.drop_zero,List.take_succ_cons,List.take_zero]at h3;obtain⟨s,e0,-,hs⟩:=DataW.trod_string Tryz.underlying9 h0;simp only[List.cons.injEq,and_true]at e0;subst e0;obtain⟨ps,hp⟩:=Yip h1 (fun x hx=>hw x (List.mem_append_right _ (List.mem_append_left _ hx)));obtain⟨is,hi⟩:=Ynf h2 (fun x hx=>hw x (List.mem_append_right _ (List.mem_append_right _ (List.mem_append_left _ hx))));obtain⟨t,rfl,rfl,rfl,rfl⟩:=Ygg h3;exact⟨⟨s,ps,is,t⟩,hs,hcell 0 ZD,⟨_,hcell 1 ZD,hp⟩,⟨_,hcell 2 ZD,hi⟩,hcell 3 ZD,hcell 4 ZD,hcell 5 ZD,hcell 6 ZD⟩
theorem YqI{r:Reach}{b0:Nat}{v:Value}{d:DataW H}{p:List MemPlace}(hv:Value.okWide Tryz.prog W r b0 26 v)(h:DataW.Trod enc Tryz.prog W 0 sp held 26 v d p)(hw:Wt 26 d):∃F,FnV W W.heap.size v F:=by
 obtain⟨v0,v1,v2,y0,y1,y2,n,rfl,hx,-,h0,h1,h2⟩:=Joins.open_agg3 Tryz.underlying26 ZK Tryz.cellsN.2.2.2.2.2.2 hv h;rw[hx]at hw;replace hw:=hw.struct Tryz.underlying26;simp only[List.map_cons,List.map_nil,DataW.weightsEach,List.append_nil]at hw;obtain⟨vs,hvs⟩:=Yio h0 (fun x hx=>hw x (List.mem_append_left _ hx));obtain⟨ps,hps⟩:=Ydf h1 (fun x hx=>hw x (List.mem_append_right _ (List.mem_append_left _ hx)));obtain⟨bs,hbs⟩:=Yng h2 (fun x hx=>hw x (List.mem_append_right _ (List.mem_append_right _ hx)));exact⟨⟨vs,ps,bs⟩,_,_,_,rfl,hvs,hps,hbs⟩
theorem YqJ{r:Reach}{b0:Nat}{v:Value}{d:DataW H}{p:List MemPlace}(hv:Value.okWide Tryz.prog W r b0 39 v)(h:DataW.Trod enc Tryz.prog W 0 sp held 39 v d p) :
 ∃t:PTerm,v=.agg #[.int .i64 t.kind,.int .i64 t.var,.int .i64 t.t0,.int .i64 t.t1]:=by
 obtain⟨cs,rfl,hsz⟩:=okWide_struct Tryz.underlying39 hv;rw[Tryz.cellsN.2.2.2.1]at hsz;obtain⟨fuel,hf⟩:=h;obtain⟨l⟩:=cs
 match l,hsz with
 |[c0,c1,c2,c3],_=>
  have hf':DataW.trod enc Tryz.prog W 0 sp held fuel 39 [c0,c1,c2,c3]=some (d,p):=by simpa[Value.cells]using hf
  obtain⟨t,rfl,rfl,rfl,rfl⟩:=Ygg hf';exact⟨t,rfl⟩
end
end Go.Proofs.YtjlclkcmfokobaaGreatDoor
namespace Go.Proofs.YtjlclkcmfokobaaGreatDoor
open Go.RowKit Go.Lib Go.Proofs
set_option maxRecDepth 100000
theorem own:ownKnob (Tryz.prog).godebug=none:=by kernel_rfl
theorem Yiq:laidOutB Tryz.prog=true:=by kernel_rfl
theorem xL:RExtra Tryz.prog Tryz.lays261_ren:=⟨ZK,ZK,ZK,ZK,ZK,ZK,ZK,ZK⟩
def YbH:List (String×DataW Unit):=[("unicode.properties",Rows.laid_unicode_properties),("unicode.Letter",Rows.laid_unicode_Letter)]
theorem Ynh:(Rows.laid_unicode_properties:DataW Unit)=Lib.tabData .u8 Lib.propertiesTab:=by kernel_rfl
theorem Yir{W:World}(h:laidMet Tryz.prog YbH W):Uni W:=by
 refine⟨?_,?_⟩
 · refine Lib.tabIs_of_head (g:=0) (t:=233) (e:=5) (n:=256) (rest:=[("unicode.Letter",Rows.laid_unicode_Letter)]) ZK ZK Tryz.underlying233 Tryz.underlying5 ZK ZK ?_
   rw[← Ynh];exact h
 · exact rvar_of_reads (P:=Tryz.prog) (ρ:=Tryz.lays261_ren) Tryz.lays261 xL ZK ZK (by
    have:=Lib.laidMet.reads h (n:= "unicode.Letter") (d:=Rows.laid_unicode_Letter) (.tail _ (.head _));rw[show Rows.laid_unicode_Letter=rtabData letterT from Pinned.letter_eq]at this
    exact this)
theorem Yis(os:Os)(args:Array Value):laidMet Tryz.prog YbH ((World.laidAll Tryz.prog os YbH).forCall (fun _ _=>0) ⟨#[],args,[]⟩).memory:=laidMet_laidAll args ZK ZK
end Go.Proofs.YtjlclkcmfokobaaGreatDoor
namespace Go.Proofs.YtjlclkcmfokobaaGreatDoor
open Go.RowKit Go.Deep Go.ChangeShapes Go.WideShapes
set_option maxRecDepth 100000
def Yd0(x:PInst):Prop:=(Lit.int .i64 x.num).wf=true
section
variable {α:Type} {B sz:Nat} {v:Value} {xs:List α} {R:Nat→Nat→α→Prop} {p:α→Prop}
theorem Sl.allW(h:Sl B v xs sz fun b o x=>R b o x∧p x):Sl B v xs sz R∧∀x∈xs,p x:=by
 refine⟨h.keep (Nr _) fun _ _ _ _ hx=>hx.1,fun x hx=>?_⟩;obtain⟨A,c,-,-,-,hr⟩:=h;obtain⟨i,hi⟩:=List.getElem?_of_mem hx;obtain⟨b,off,-,-,h2⟩:=hr i x hi;exact h2.2
end
section
variable {H:Type} {enc:TypeId×Value→H} {W:World} {sp:Nat→Bool} {held:Bool}
theorem Yo5{fuel:Nat}{v:Value}{y:DataW H×List MemPlace}(h:DataW.trod enc Tryz.prog W 0 sp held fuel 35 [v]=some y)(hw:Wt 35 y.1):∃xs,SInsts W W.heap.size v xs∧∀x∈xs,Yd0 x:=by
 obtain⟨xs,hx⟩:=YcK Tryz.underlying35 Tryz.cellsN.2.2.1 ZD Tryz.bytes8.2.2.2.1 (fun b o x=>InstC W W.heap.size b o x∧Yd0 x) (fun b off cs n y _ hl hcell hy hw=>by
  obtain⟨y0,y1,y2,y3,m,hx,-,h0,h1,h2,h3⟩:=Joins.trod_struct4 Tryz.underlying44 hy;rw[hx]at hw;replace hw:=hw.struct Tryz.underlying44;simp only[List.map_cons,List.map_nil,DataW.weightsEach,List.append_nil]at hw
  match cs,hl with
  |[c0,c1,c2,c3],_=>
   simp only[Tryz.cells1.2.2.2.2.1,List.drop_zero,List.take_succ_cons,List.take_zero]at h0;simp only[Tryz.cells1.1,List.drop_succ_cons,List.drop_zero,List.take_succ_cons,List.take_zero]at h1;simp only[Tryz.cells1.2.2.2.1,List.drop_succ_cons,List.drop_zero,List.take_succ_cons,List.take_zero]at h2;simp only[Tryz.cells1.2.2.2.2.2.1,List.drop_succ_cons,List.drop_zero,List.take_succ_cons,List.take_zero]at h3;obtain⟨o,e0,-,-⟩:=DataW.trod_int Tryz.underlying42 h0;obtain⟨d,e1,-,-⟩:=DataW.trod_int Tryz.underlying3 h1;obtain⟨k,e3,-,hk⟩:=DataW.trod_int Tryz.underlying2 h3;simp only[List.cons.injEq,and_true]at e0 e1 e3;subst e0 e1 e3;obtain⟨al,ha⟩:=Ydf h2 (fun x hx=>hw x (List.mem_append_right _ (List.mem_append_right _ (List.mem_append_left _ hx))))
   exact⟨⟨o,d,al,k⟩,⟨hcell 0 ZD,hcell 1 ZD,⟨_,hcell 2 ZD,ha⟩,hcell 3 ZD⟩,hk⟩) h hw
 exact⟨xs,hx.allW⟩
theorem Yo6{fuel:Nat}{v:Value}{y:DataW H×List MemPlace}(h:DataW.trod enc Tryz.prog W 0 sp held fuel 24 [v]=some y)(hw:Wt 24 y.1):∃xs,SBlks W W.heap.size v xs∧∀b∈xs,∀x∈b.insts,Yd0 x:=by
 obtain⟨xs,hx⟩:=YcK Tryz.underlying24 Tryz.cellsN.2.2.2.2.2.1 ZD Tryz.bytes8.2.2.2.2 (fun b o x=>BlkC W W.heap.size b o x∧∀i∈x.insts,Yd0 i) (fun b off cs n y _ hl hcell hy hw=>by
  obtain⟨y0,y1,y2,y3,m,hx,-,h0,h1,h2,h3⟩:=Joins.trod_struct4 Tryz.underlying41 hy;rw[hx]at hw;replace hw:=hw.struct Tryz.underlying41;simp only[List.map_cons,List.map_nil,DataW.weightsEach,List.append_nil]at hw
  match cs,hl with
  |[c0,c1,c2,c3,c4,c5,c6],_=>
   simp only[Tryz.cells1.2.1,List.drop_zero,List.take_succ_cons,List.take_zero]at h0;simp only[Tryz.cells1.2.2.2.2.2.2.1,List.drop_succ_cons,List.drop_zero,List.take_succ_cons,List.take_zero]at h1;simp only[Tryz.cells1.2.2.2.2.2.2.2.1,List.drop_succ_cons,List.drop_zero,List.take_succ_cons,List.take_zero]at h2;simp only[Tryz.cellsN.2.2.2.1,List.drop_succ_cons,List.drop_zero,List.take_succ_cons,List.take_zero]at h3;obtain⟨s,e0,-,hs⟩:=DataW.trod_string Tryz.underlying9 h0;simp only[List.cons.injEq,and_true]at e0;subst e0;obtain⟨ps,hp⟩:=Yip h1 (fun x hx=>hw x (List.mem_append_right _ (List.mem_append_left _ hx)));obtain⟨is,hi,hin⟩:=Yo5 h2 (fun x hx=>hw x (List.mem_append_right _ (List.mem_append_right _ (List.mem_append_left _ hx))));obtain⟨t,rfl,rfl,rfl,rfl⟩:=Ygg h3
   exact⟨⟨s,ps,is,t⟩,⟨hs,hcell 0 ZD,⟨_,hcell 1 ZD,hp⟩,⟨_,hcell 2 ZD,hi⟩,hcell 3 ZD,hcell 4 ZD,hcell 5 ZD,hcell 6 ZD⟩,hin⟩) h hw
 exact⟨xs,hx.allW⟩
theorem Yjh{r:Reach}{b0:Nat}{v:Value}{d:DataW H}{p:List MemPlace}(hv:Value.okWide Tryz.prog W r b0 26 v)(h:DataW.Trod enc Tryz.prog W 0 sp held 26 v d p)(hw:Wt 26 d):∃F,FnV W W.heap.size v F∧∀b∈F.blocks,∀x∈b.insts,Yd0 x:=by
 obtain⟨v0,v1,v2,y0,y1,y2,n,rfl,hx,-,h0,h1,h2⟩:=Joins.open_agg3 Tryz.underlying26 ZK Tryz.cellsN.2.2.2.2.2.2 hv h;rw[hx]at hw;replace hw:=hw.struct Tryz.underlying26;simp only[List.map_cons,List.map_nil,DataW.weightsEach,List.append_nil]at hw;obtain⟨vs,hvs⟩:=Yio h0 (fun x hx=>hw x (List.mem_append_left _ hx));obtain⟨ps,hps⟩:=Ydf h1 (fun x hx=>hw x (List.mem_append_right _ (List.mem_append_left _ hx)));obtain⟨bs,hbs,hn⟩:=Yo6 h2 (fun x hx=>hw x (List.mem_append_right _ (List.mem_append_right _ hx)));exact⟨⟨vs,ps,bs⟩,⟨_,_,_,rfl,hvs,hps,hbs⟩,hn⟩
end
end Go.Proofs.YtjlclkcmfokobaaGreatDoor
