/- The plain law of what stands above what: of each block the nearest one above it, moved up till nothing changes. -/
import Derived.Test.YthhjlbflpjhahaaGreatDoorLeafQZ
import Derived.BigQuiet
import Derived.Deep.QuietTactic
import Derived.Deep.LoopGhost
import Derived.Test.YthhjlbflpjhahaaGreatDoorShelf
import Derived.Test.YthhjlbflpjhahaaGreatDoorZedZ
import Derived.Laws.CopyOwn
import Derived.WalkKit
namespace Go.Proofs.YthhjlbflpjhahaaGreatDoor
inductive Anc (N:Nat→Option Nat) (x:Nat):Nat→Prop
 |refl:Anc N x x
 |up {b p:Nat}:b≠0→N b=some p→Anc N x p→Anc N x b
inductive Avoid (Pr:Nat→Nat→Prop) (d:Nat):Nat→Prop
 |start:d≠0→Avoid Pr d 0
 |step {a b:Nat}:Avoid Pr d a→Pr a b→b≠d→Avoid Pr d b
structure GOk (R:Nat→Prop) (pl:Nat→Nat) (Pr:Nat→Nat→Prop):Prop where
 r0:R 0
 at0:pl 0=0
 inj:∀{a b},R a→R b→pl a=pl b→a=b
 clo:∀{a b},R a→Pr a b→R b
 fwd:∀{b},R b→b≠0→∃a,R a∧Pr a b∧pl a<pl b
structure TOk (R:Nat→Prop) (pl:Nat→Nat) (N:Nat→Option Nat):Prop where
 zero:N 0≠none
 up:∀{b p},b≠0→N b=some p→R b∧R p∧pl p<pl b∧N p≠none
section
variable {R:Nat→Prop} {pl:Nat→Nat} {Pr:Nat→Nat→Prop} {N N':Nat→Option Nat} {a b c d j p u v x y:Nat}
def Meets(R:Nat→Prop)(Pr:Nat→Nat→Prop)(N:Nat→Option Nat)(b v:Nat):Prop:=∀x,Anc N x v↔∀a,R a→Pr a b→N a≠none→Anc N x a
structure QInv (R:Nat→Prop) (pl:Nat→Nat) (Pr:Nat→Nat→Prop) (N:Nat→Option Nat) (j:Nat):Prop where
 tok:TOk R pl N
 done:∀{b},R b→pl b<j→N b≠none
 all:(∀{b},R b→N b≠none)∨∀{b},N b≠none→pl b<j
 F:∀{b p a x},b≠0→N b=some p→R a→Pr a b→pl a<pl b→(pl b<j∨j≤pl x)→Anc N x p→Anc N x a
 G:∀{b p x},b≠0→N b=some p→(∀a,R a→Pr a b→N a≠none→Anc N x a)→Anc N x p
 S:∀{b d},N b≠none→¬Avoid Pr d b→Anc N d b
structure Move (R:Nat→Prop) (pl:Nat→Nat) (Pr:Nat→Nat→Prop) (N N':Nat→Option Nat) (j b v:Nat):Prop where
 h:QInv R pl Pr N j
 hb:R b
 hj:pl b=j
 h0:b≠0
 hm:Meets R Pr N b v
 hv:N v≠none
 hvl:pl v<pl b
 hb':N' b=some v
 hc':∀c,c≠b→N' c=N c
end
end Go.Proofs.YthhjlbflpjhahaaGreatDoor
namespace Go.Proofs.YthhjlbflpjhahaaGreatDoor
structure LvOk (R:Nat→Prop) (N V:Nat→Option Nat):Prop where
 zero:V 0=some 0
 up:∀{b k},b≠0→V b=some k→∃p i,N b=some p∧V p=some i∧k=i+1
 iff:∀{b},V b≠none↔R b
section
variable {R:Nat→Prop} {pl:Nat→Nat} {N V:Nat→Option Nat} {a b c d j k m p u v x y n:Nat}
open Classical in
noncomputable def aboveN (N:Nat→Option Nat) (b n:Nat):Nat:=((List.range n).filter fun a=>decide (a≠b∧Anc N a b)).length
end
end Go.Proofs.YthhjlbflpjhahaaGreatDoor
namespace Go.Proofs.YthhjlbflpjhahaaGreatDoor
open Go.RowKit
set_option maxRecDepth 100000
def encO:Option Nat→Int
 |none=>-1
 |some k=>k
def fnO(L:List (Option Nat))(b:Nat):Option Nat:=L.getD b none
def RowO(w:World)(g:Nat)(L:List (Option Nat)):Prop:=g<w.heap.size∧∀i,i<L.length→w.cell? ⟨g,i,none⟩=some (.int .i64 (encO (fnO L i)))
theorem bdrewM{B:Nat}{a w:World}(h:Below B a w)(n:Nat):Below B a (w.drewN n):=h.trans ⟨rfl,rfl,rfl,Nr _,fun _ _=>rfl⟩
theorem box2{w w':World}{x y:Value}{t:TypeId}(hb:Below (w.heap.size+1) (w.alloc (.cells #[x,y] t)) w') :
 w.heap.size<w'.heap.size∧w'.cell? ⟨w.heap.size,0,none⟩=some x∧w'.cell? ⟨w.heap.size,1,none⟩=some y:=by
 have hg:=heap_alloc_new w (.cells #[x,y] t);have hs:=hb.size;simp at hs;exact⟨hs,(hb.cell (p:=⟨w.heap.size,0,none⟩) (Nat.lt_succ_self _)).trans (cell_of_row _ _ 0 _ _ _ hg),(hb.cell (p:=⟨w.heap.size,1,none⟩) (Nat.lt_succ_self _)).trans (cell_of_row _ _ 1 _ _ _ hg)⟩
end Go.Proofs.YthhjlbflpjhahaaGreatDoor
namespace Go.Proofs.YthhjlbflpjhahaaGreatDoor
open Go.RowKit
def pz(n:Nat)(O:List Nat)(b:Nat):Nat:=pl n O b-1
structure GrOk (n:Nat) (O:List Nat) (P:Nat→List Nat):Prop where
 hd:∃r,O=0::r
 nod:O.Nodup
 lt:∀b∈O,b<n
 plt:∀b,∀a∈P b,a<n
 clo:∀{a b},a∈O→a∈P b→b∈O
 fwd:∀{b},b∈O→b≠0→∃a,a∈O∧a∈P b∧pl n O a<pl n O b
section
variable {n j k b c v:Nat} {O:List Nat} {P:Nat→List Nat} {L:List (Option Nat)}
theorem pl_idx(hn:O.Nodup)(hl:∀b∈O,b<n){i:Nat}(hi:i<O.length):pl n O O[i]=i+1:=atRow_at hn hl _ (Nr _) i hi hi
theorem pl_out(hb:b∉O):pl n O b=0:=by
 unfold pl;exact atRow_zero _ (Nr _) (by rw[List.take_length];exact hb)
def atO(n:Nat)(O:List Nat)(k:Nat):List (Option Nat):=(atRow n O k).map fun x=>if x=0 then none else some (x-1)
def Best(N:Nat→Option Nat)(l:List Nat):Option Nat→Prop
 |none=>∀a∈l,N a=none
 |some v=>N v≠none∧(∃a∈l,N a≠none)∧∀x,Anc N x v↔∀a∈l,N a≠none→Anc N x a
section
variable {N:Nat→Option Nat} {l:List Nat} {o:Option Nat} {a m:Nat}
end
def wgt(n:Nat)(O:List Nat):Option Nat→Nat
 |none=>O.length
 |some p=>pz n O p
def phi(n:Nat)(O:List Nat)(L:List (Option Nat)):Nat:=(L.map (wgt n O)).sum
def valsO(L:List (Option Nat)):List Value:=L.map fun o=>.int .i64 (encO o)
def NMid(n:Nat)(O:List Nat)(P:Nat→List Nat)(L:List (Option Nat))(j:Nat)(L':List (Option Nat))(m:Bool):Prop:=
 QInv (·∈O) (pz n O) (fun a b=>a∈P b) (fnO L') j∧L'.length=n∧fnO L' 0=some 0∧
 (m=false→L'=L∧∀b v,b∈O→b≠0→pz n O b<j→fnO L' b=some v→Meets (·∈O) (fun a b=>a∈P b) (fnO L') b v)∧(m=true→phi n O L'<phi n O L)
end
end Go.Proofs.YthhjlbflpjhahaaGreatDoor
namespace Go.Proofs.YthhjlbflpjhahaaGreatDoor
open Go.RowKit
set_option maxRecDepth 100000
theorem row_own{w:World}{B e g n cap:Nat}{xs:List Value}(hB:B≤g)(h:w.heap[g]?=some (.cells xs.toArray e (0,0)))(hl:xs.length=n)(hc:cap=n)(hm:n≤1048576):w.ownsRow B e 1 (.slice (some ⟨g,0,none⟩) n cap) n xs:=by
 subst hl hc;exact⟨ZS,.inr ⟨g,xs.length,xs.toArray,rfl,hB,h,Nr _,by unfold maxLen;omega,ZS,ZS⟩⟩
theorem own_row{w:World}{B e g n:Nat}{xs:List Value}(h:w.ownsRow B e 1 (.slice (some ⟨g,0,none⟩) n n) n xs):B≤g∧w.heap[g]?=some (.cells xs.toArray e (0,0)):=by
 obtain⟨h1,h2⟩:=h;rcases h2 with⟨h2,_⟩|⟨g',cap,cur,hv,hg,hh,hn,hcap,hsz,htake⟩
 · cases h2
 · cases hv
   refine⟨hg,?_⟩;rw[hh];congr 2;rw[List.take_of_length_le (by simp[hsz])]at htake;rw[← htake]
def filled(x:Int)(n k:Nat):List Value:=List.replicate k (.int .i64 x)++List.replicate (n-k) (.int .i64 0)
theorem filled_len{x:Int}{n k:Nat}(h:k≤n):(filled x n k).length=n:=by simp[filled];omega
theorem copy_fill{w:World}{g off n k m dl dc sl sc:Nat}{x:Int}{ad:Addr}(hg:w.heap[g]?=some (.cells (filled x n k).toArray 3 (0,0)))(hk:k≤n)(hm:m=min sl dl)(hkm:k+m≤n)(ho:off=k)(hsrc:∀j,j<m→w.cell? (ad.add j)=some (.int .i64 x)) :
 ∃w2,w2.heap[g]?=some (.cells (filled x n (k+m)).toArray 3 (0,0))∧(∀B w0,Below B w0 w→B≤g→Below B w0 w2)∧
  (Builtin.copy_ #[23,23] 3 #[.slice (some ⟨g,off,none⟩) dl dc,.slice (some ad) sl sc]).run Tryz.prog w=.ok (.int .i64 (m:Int)) w2:=by
 subst ho;have hrun:=run_copy_row (P:=Tryz.prog) w 23 23 3 3 g off dl dc ad sl sc (filled x n off).toArray 3 (List.replicate m (.int .i64 x)) Tryz.underlying23 ZK hg (by rw[List.length_replicate,hm])
  (fun j v hv=>by rw[List.getElem?_replicate]at hv;split at hv<;>simp at hv;subst hv;exact hsrc j ‹_›) (by simp[filled_len hk];omega) (fun v hv=>by simp at hv;rw[hv.2];rfl)
 refine⟨_,?_,fun B w0 hb hB=>below_setRow hb hB _,by rw[hrun,List.length_replicate];rfl⟩;rw[setRow_heap w g _ _ 3 _ hg];have e1:(filled x n off).take off=List.replicate off (.int .i64 x):=by simp[filled]
 have e2:(filled x n off).drop (off+m)=List.replicate (n-(off+m)) (.int .i64 0):=by
  simp[filled,List.drop_append,Nat.sub_sub]
 rw[show(filled x n off).toArray.toList=filled x n off from rfl,e1,e2];congr 3;rw[filled,← List.replicate_append_replicate]
set_option maxHeartbeats 2000000 in
theorem repeat_calls{w:World}{b n:Nat}{x:Int}(hb:b<w.heap.size)(hx:w.cell? ⟨b,0,none⟩=some (.int .i64 x))(n1:1≤n)(n2:n≤64) :
 Calls Tryz.prog 69 #[.slice (some ⟨b,0,none⟩) 1 1,.int .i64 (n:Int)] w fun e w'=>∃g,e=.returned (.slice (some ⟨g,0,none⟩) n n)∧
  w'.ownsRow w.heap.size 3 1 (.slice (some ⟨g,0,none⟩) n n) n (List.replicate n (.int .i64 x))∧Below w.heap.size w w':=by
 obtain⟨ib,hib,hz0,hz1,hz2⟩:=info_parts (show(Tryz.prog.info? 3).map (fun i=>(i.zero,i.size,i.bytes))=some (some (.int .i64 0),1,8)from ZK);have hmul:∀w0:World,Calls Tryz.prog 98 #[.int .u64 1,.int .u64 (n:Int)] w0 fun e w'=>e=.returned (.tuple #[.int .u64 0,.int .u64 (n:Int)])∧w'=w0:=fun w0=>
  (Tryz.bits_Mul 1 n ZO ZO w0).mono fun e w' h=>⟨by rw[h.1,Nat.one_mul,Nat.div_eq_of_lt ZO,Nat.mod_eq_of_lt ZO];rfl,h.2⟩
 go_enter Tryz.func69,Tryz.ntmps69
 go_wp2_with(first
  |(go_at_call 98;refine(hmul _).mono ?_;rintro e w0 ⟨rfl,hw0⟩;subst w0)
  |(at_make;refine wpList_make_full _ rfl _ _ 23 rfl w.heap.size 3 ib _ 1 Tryz.underlying23 hib hz0 hz1 _ _ _ _ _ rfl rfl rfl rfl (by rw[hz2];omega) (by unfold maxLen;omega) ZO ?_;intro w1 hs1 hg1
    have hb1:Below w.heap.size w w1:=(Br _ _).grown hg1 (Nr _) (fun k hk=>by cases hk);have hh1:=(own_row hs1).2;rw[show(madeCells (Value.int IntKind.i64 0).cells (n*1)).toList=filled x n 0 by simp[Value.cells,toList_madeCells_one,filled]]at hh1
    obtain⟨w2,hh2,hb2,hrun⟩:=copy_fill (dl:=n) (dc:=n) (sl:=1) (sc:=1) (off:=0) (m:=1) (ad:=⟨b,0,none⟩) hh1 ZO ZO ZO rfl (fun j hj=>by
     obtain rfl:j=0:=by omega
     exact(hb1.cell (p:=⟨b,0,none⟩) hb).trans hx)
    replace hb2:=hb2 _ _ hb1 (Nr _)
    clear hs1 hg1 hh1 hb1))
 go_loopw[8] (fun v8 wr=>∃k:Nat,v8=.int .i64 k∧1≤k∧k≤n∧wr.heap[w.heap.size]?=some (.cells (filled x n k).toArray 3 (0,0))∧Below w.heap.size w wr) (fun v8 _=>n-(intOf v8).toNat)
 case atStart=>exact⟨1,rfl,ZO,ZO,hh2,hb2⟩
 case round=>as_aux_lemma=>
  clear hh2 hb2 hrun;obtain⟨k,rfl,hk1,hk2,hh,hb⟩:=hrel
  by_cases hlt:k<n
  · obtain⟨w3,hh3,hb3,hrun3⟩:=copy_fill (w:=wr.drew) (dl:=n-k) (dc:=n-k) (sl:=k) (sc:=n) (off:=k) (m:=min k (n-k)) (ad:=⟨w.heap.size,0,none⟩) hh ZO rfl ZO rfl (fun j hj=>by
     have:=cell_of_row wr.drew _ j _ _ _ hh;rw[Addr.add_lit,Nat.zero_add,this]
     simp[filled,List.getElem?_append,show j<k from ZO])
    go_wp2_with fail;obtain⟨S0,hS0⟩:∃S0:World→Prop,S0=fun w'=>0<w'.heap.size+1:=⟨_,rfl⟩
    have HS0:=Lh hS0;clear hS0;have k0:=fun xw=>WS.at HS0 xw
    refine wp_region_sched (S:=S0) [0,1,2,3,4,5,6,7,8,9] ZK ZK (fun _ _ _ _ _ h=>h) ?hS (fun hSc=>?_)
    case hS=>
     rw[HS0.out];exact ZJ
    have hne0:Nonempty (WS S0):=⟨⟨_,hSc⟩⟩;simp only[List.map_cons,List.map_nil,Ld,Le]
    repeat
     first
     |((with_reducible refine wpSch_lk ?_ ?_);exact rfl;go_big_quiet_step (fail);(try with_reducible refine wpQuiet_nil ?_);(try dsimp only))
     |((with_reducible refine wpSch_act ?_ ?_ (fun K hK=>?_))
       exact rfl;exact rfl;go_simp;(try go_wp2_with(fail));refine hK.out _ _ ?hS (fun hSc=>?_)
       case hS=>
        first
        |exact hSc
        |(rw[HS0.out]at hSc ⊢;obtain p0:=hSc;exact ZT)
       clear hK K)
    refine wpSch_nil ?_;rw[HS0.out]at hSc;obtain p0:=hSc;clear hne0 HS0 k0;go_wp2;go_roundw
    case rel=>exact⟨k+min k (n-k),ZN,ZO,ZO,hh3,hb3 _ _ (bdrewM hb 1) (Nr _)⟩
    case measure=>simp[intOf];omega
  · obtain rfl:k=n:=by omega
    go_wp2;go_ret;exact⟨_,rfl,row_own (Nr _) (by simpa[filled]using hh) ZS rfl ZO,hb⟩
end Go.Proofs.YthhjlbflpjhahaaGreatDoor
