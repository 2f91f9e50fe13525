/- The walks of the small functions that look into a program, call nothing, and answer a number or a bool. Rows that the program makes itself: one element appended at a time; such a row read as a list of numbers. No program's code in sight. Where each block stands in the order. No program's code in sight. -/
import Derived.Test.YtlhhfcleioikoaaGreatDoorData
import Derived.OwnWalk
namespace Go.Proofs.YtlhhfcleioikoaaGreatDoor
open Go.RowKit
def inB(k:Int)(n:Nat):Bool:=decide (0≤k)&&decide (k<n)
theorem inB_true{k:Int}{n:Nat}(h:inB k n=true):0≤k∧k<n:=by simpa[inB]using h
theorem inB_mk{k:Int}{n:Nat}(h:0≤k∧k<n):inB k n=true:=by simpa[inB]using h
theorem inB_false{k:Int}{n:Nat}(h:inB k n=false):¬(0≤k∧k<n):=fun h'=>by rw[inB_mk h']at h;cases h
theorem has_calls{W w:World}{fv:Value}{F:PFunc}(hF:FnV W W.heap.size fv F)(v:Int) :
 Calls Tryz.prog 168 #[fv,.int .i64 v] w fun e w'=>e=.returned (.bool (inB v F.vars.length))∧Below w.heap.size w w':=by
 obtain⟨A0,c0,A1,c1,A2,c2,rfl,l0,l1,l2,-,-,-,-,-,-⟩:=hF.open_;unfold Len at *
 by_cases h0:0≤v
 all_goals
  go_enter Tryz.func168,Tryz.ntmps168;go_wp2;go_ret;exact⟨by simp[inB]<;>omega,BL⟩
theorem at_calls{W w:World}{fv:Value}{F:PFunc}(hF:FnV W W.heap.size fv F)(v:Int) :
 Calls Tryz.prog 171 #[fv,.int .i64 v] w fun e w'=>e=.returned (.bool (inB v F.blocks.length))∧Below w.heap.size w w':=by
 obtain⟨A0,c0,A1,c1,A2,c2,rfl,l0,l1,l2,-,-,-,-,-,-⟩:=hF.open_;unfold Len at *
 by_cases h0:0≤v
 all_goals
  go_enter Tryz.func171,Tryz.ntmps171;go_wp2;go_ret;exact⟨by simp[inB]<;>omega,BL⟩
theorem in_calls{w:World}(v:Int)(n:Nat) :
 Calls Tryz.prog 114 #[.int .i64 v,.int .i64 n] w fun e w'=>e=.returned (.bool (inB v n))∧w=w':=by
 by_cases h0:0≤v
 all_goals
  go_enter Tryz.func114,Tryz.ntmps114;go_wp2;go_ret;exact⟨by simp[inB]<;>omega,rfl⟩
theorem kind_calls{W w:World}{fv:Value}{F:PFunc}(hF:FnV W W.heap.size fv F)(hW:Below W.heap.size W w)(v:Int)(h0:0≤v)(h1:v<F.vars.length) :
 Calls Tryz.prog 145 #[fv,.int .i64 v] w fun e w'=>e=.returned (.int .i64 (F.var v.toNat).ty)∧Below w.heap.size w w':=by
 obtain⟨n,rfl⟩:=Int.eq_ofNat_of_zero_le h0;rw[Int.toNat_natCast];obtain⟨A0,c0,A1,c1,A2,c2,rfl,l0,l1,l2,-,-,-,r0,-,-⟩:=hF.open_;unfold Len at *;obtain⟨b,off,rfl,hb,-,-,hc⟩:=r0.var hW (i:=n) ZO;go_enter Tryz.func145,Tryz.ntmps145;go_wp2;go_ret;exact⟨rfl,BL⟩
theorem of_calls{W w:World}{fv:Value}{F:PFunc}(hF:FnV W W.heap.size fv F)(hW:Below W.heap.size W w)(v:Int)(h0:0≤v)(h1:v<F.vars.length) :
 Calls Tryz.prog 81 #[fv,.int .i64 v] w fun e w'=>e=.returned (.int .i64 (F.var v.toNat).ty)∧Below w.heap.size w w':=by
 obtain⟨n,rfl⟩:=Int.eq_ofNat_of_zero_le h0;rw[Int.toNat_natCast];obtain⟨A0,c0,A1,c1,A2,c2,rfl,l0,l1,l2,-,-,-,r0,-,-⟩:=hF.open_;unfold Len at *;obtain⟨b,off,rfl,hb,-,-,hc⟩:=r0.var hW (i:=n) ZO;go_enter Tryz.func81,Tryz.ntmps81;go_wp2;go_ret;exact⟨rfl,BL⟩
def leads(t:PTerm)(b:Int):Bool:=decide (t.kind=0∧t.t0=b∨t.kind=1∧(t.t0=b∨t.t1=b))
theorem leads_calls{W w:World}{fv:Value}{F:PFunc}(hF:FnV W W.heap.size fv F)(hW:Below W.heap.size W w)(a b:Int)(h0:0≤a)(h1:a<F.blocks.length) :
 Calls Tryz.prog 48 #[fv,.int .i64 a,.int .i64 b] w fun e w'=>e=.returned (.bool (leads (F.blk a.toNat).term b))∧Below w.heap.size w w':=by
 obtain⟨n,rfl⟩:=Int.eq_ofNat_of_zero_le h0;rw[Int.toNat_natCast];obtain⟨A0,c0,A1,c1,A2,c2,rfl,l0,l1,l2,-,-,-,-,-,r2⟩:=hF.open_;unfold Len at *;obtain⟨bb,off,A3,c3,A4,c4,rfl,hb,-,-,-,-,x3,x4,x5,x6,-,-,-,-,-,-⟩:=r2.blk hW (i:=n) ZO;unfold leads;generalize (F.blk n).term=t at *
 by_cases k0:t.kind=0
 · by_cases k1:t.t0=b
   all_goals
    go_enter Tryz.func48,Tryz.ntmps48;go_wp2;go_ret;exact⟨by simp[k0,k1],BL⟩
 · by_cases k1:t.kind=1
   · by_cases k2:t.t0=b
     all_goals
      go_enter Tryz.func48,Tryz.ntmps48;go_wp2;go_ret;exact⟨ret_bool' (by simp[k1,k2]),BL⟩
   · go_enter Tryz.func48,Tryz.ntmps48
     go_wp2;go_ret;exact⟨by simp[k0,k1],BL⟩
end Go.Proofs.YtlhhfcleioikoaaGreatDoor
namespace Go.Proofs.YtlhhfcleioikoaaGreatDoor
open Go.RowKit
theorem cell_new_one(w:World)(u:Value)(t:TypeId):∀j x,[u][j]?=some x→(w.alloc (.cells #[u] t)).cell? ((⟨w.heap.size,0,none⟩:Addr).add j)=some x:=cell_one_new _ _ _
section
variable {P:Program}
theorem wpList_append1(w:World){ops:Array Oper}{rest:List Oper}{o:Oper}{a:Act}{Q:Exit→Act→World→Prop}(hgd:o.guard=none)(s x:Operand)(t:TypeId)
 (ho:o.op=.call { callee:=.builtin .append,args:=#[s,x],argTypes:=#[t,t] })
 (base:Nat) (e:TypeId) (bytes:Nat) (ht:P.underlying t=some (.slice e)) {z:Value} (hinf:(P.info? e).map (fun i=>(i.zero,i.size,i.bytes))=some (some z,1,bytes)) (hz1:z.cells.size=1)
 (v:Value) (n:Nat) (xs:List Value) (hs:a.eval s=v) (hown:w.ownsRow base e 1 v n xs)
 (N:Nat) (hN:w.heap.size=N) (u:Value) (hx:a.eval x=.slice (some ⟨N,0,none⟩) 1 1) (h1:u.oneCell'=true)
 (h63:n<1048576) (hby:bytes≤64) (hbase:base≤w.heap.size)
 (h:∀v' w',w'.ownsRow base e 1 v' (n+1) (xs++[u])→(w.alloc (.cells #[u] e)).grownBy w' v.ownBlock→wpList P ops Q rest (a.put o.dst v') w') :
 wpList P ops Q (o::rest) a (w.alloc (.cells #[u] e)):=by
 subst hN;obtain⟨i,hi,hz,hsz,hb⟩:=info_parts hinf;refine wpList_append_own _ hgd s x t ho base e i z 1 bytes ht hi hz hsz hb hz1 ZD v n xs hs (hown.alloc _) ⟨w.heap.size,0,none⟩ 1 1 [u] hx rfl (cell_new_one w u e) (by simpa using h1) (by unfold maxLen;omega) ?_ ZX (fun v' w' a b _=>h v' w' a b)
 calc(n+1)*bytes≤1048576*64:=Nat.mul_le_mul ZO hby
  _≤140737488355328:=by decide
end
theorem Rd.of_own{w:World}{base:Nat}{e:TypeId}{c n:Nat}{A:Option Addr}{xs:List Int}(h:w.ownsRow base e 1 (.slice A n c) n (xs.map (Value.int .i64))):n=xs.length∧n≤c∧Rd w.heap.size A xs 1 (IntC w):=by
 obtain⟨hl,h⟩:=h;have hn:n=xs.length:=by simpa using hl.symm
 rcases h with⟨hv,hn0⟩|⟨g,cap,cur,hv,hb,hg,hnc,hcm,hsz,hcur⟩
 · injection hv with h1 h2 h3
   subst h1 h2 h3;refine⟨hn,Nat.le_refl _,fun i x hx=>?_⟩;have:xs=[]:=List.eq_nil_of_length_eq_zero hn.symm;subst this;simp at hx
 · injection hv with h1 h2 h3
   subst h1 h3;refine⟨hn,hnc,fun i x hx=>⟨g,0,rfl,(Array.getElem?_eq_some_iff.1 hg).1,?_⟩⟩;unfold IntC;rw[cell_of_row w g _ cur e (0,0) hg];have hi:i<xs.length:=(List.getElem?_eq_some_iff.1 hx).1;have:(cur.toList.take (n*1))[i]?=some (.int .i64 x):=by rw[hcur];simp[hx]
   rw[List.getElem?_take]at this;split at this
   · simpa using this
   · cases this
theorem own_form{w:World}{base:Nat}{e:TypeId}{sz n:Nat}{v:Value}{xs:List Value}(h:w.ownsRow base e sz v n xs):∃A c,v=.slice A n c:=by
 rcases h.2 with⟨rfl,rfl⟩|⟨g,cap,cur,rfl,_⟩
 · exact⟨none,0,rfl⟩
 · exact⟨_,_,rfl⟩
def RetInts(w:World)(xs:List Int)(e:Ending)(w':World):Prop:=
 ∃A c,e=.returned (.slice A xs.length c)∧Len xs.length∧xs.length≤c∧Rd w'.heap.size A xs 1 (IntC w')∧Below w.heap.size w w'
theorem RetInts.of_own{w w':World}{xs:List Int}{base:Nat}{e:TypeId}{v:Value}{n:Nat}(h:w'.ownsRow base e 1 v n (xs.map (Value.int .i64)))(hn:n≤1048576)(hb:Below w.heap.size w w'):RetInts w xs (.returned v) w':=by
 obtain⟨A,c,rfl⟩:=own_form h;obtain⟨rfl,hc,hr⟩:=Rd.of_own h;exact⟨A,c,rfl,by unfold Len;omega,hc,hr,hb⟩
theorem Rd.sints{w:World}{B:Nat}{A:Option Addr}{c:Nat}{xs:List Int}(h:Rd B A xs 1 (IntC w))(hl:Len xs.length)(hc:xs.length≤c):SInts w B (.slice A xs.length c) xs:=⟨A,c,rfl,hl,hc,h⟩
theorem own_below{w w':World}{base:Nat}{e:TypeId}{sz n:Nat}{v:Value}{xs:List Value}(h:w.ownsRow base e sz v n xs)(hb:Below w.heap.size w w'):w'.ownsRow base e sz v n xs:=by
 obtain⟨hl,h⟩:=h;refine⟨hl,?_⟩;rcases h with h|⟨g,cap,cur,hv,hg,hh,r⟩
 · exact .inl h
 · exact .inr ⟨g,cap,cur,hv,hg,(hb.block g (Array.getElem?_eq_some_iff.1 hh).1).trans hh,r⟩
theorem grown_kept{w w':World}{base:Nat}{e:TypeId}{sz n:Nat}{v:Value}{xs:List Value}{o:Obj}(h:w.ownsRow base e sz v n xs)(hg:(w.alloc o).grownBy w' v.ownBlock){k:Nat}(hk:k<base)(hk':k<w.heap.size) :
 w'.heap[k]?=w.heap[k]?:=
 (hg.block k ZX (fun he=>by have:=(h.lt k he.symm).1;omega)).trans (Below.heap_alloc w o k hk')
theorem grown_below{w w' a:World}{base B:Nat}{e:TypeId}{sz n:Nat}{v:Value}{xs:List Value}{o:Obj}(h:w.ownsRow base e sz v n xs)(hg:(w.alloc o).grownBy w' v.ownBlock)(hb:Below B a w)(hB:B≤base)(hB':B≤w.heap.size) :
 Below B a w':=
 (hb.alloc hB' o).grown hg ZX (fun k hk=>by have:=(h.lt k hk).1;omega)
theorem grown_cell{w a w':World}{base:Nat}{e:TypeId}{sz n:Nat}{v:Value}{xs:List Value}(h:w.ownsRow base e sz v n xs)(hg:a.grownBy w' v.ownBlock)(p:Addr)(hp:p.block<base∨w.heap.size≤p.block)(ha:p.block<a.heap.size) :
 w'.cell? p=a.cell? p:=
 World.cell?_of_block (w:=a) (hg.block p.block ha (fun he=>by have:=h.lt p.block he.symm;omega))
end Go.Proofs.YtlhhfcleioikoaaGreatDoor
namespace Go.Proofs.YtlhhfcleioikoaaGreatDoor
open Go.RowKit
set_option maxRecDepth 100000
theorem getD_get{α:Type}{l:List α}{i:Nat}(h:i<l.length)(d:α):l.getD i d=l[i]:=by simp[h]
def atRow(N:Nat)(l:List Nat):Nat→List Nat
 |0=>List.replicate N 0
 |n+1=>(atRow N l n).set (l.getD n 0) (n+1)
theorem atRow_len{N:Nat}{l:List Nat}:∀n,(atRow N l n).length=N
 |0=>by simp[atRow]
 |n+1=>by rw[atRow,List.length_set,atRow_len n]
theorem atRow_le{N:Nat}{l:List Nat}{b:Nat}:∀n,(atRow N l n).getD b 0≤n
 |0=>by simp[atRow,List.getD,List.getElem?_replicate];split<;>simp
 |n+1=>by
  have ih:=atRow_le (N:=N) (l:=l) (b:=b) n;rw[atRow,List.getD,List.getElem?_set];split
  · split
    · exact ZS
    · exact ZS
  · rw[← List.getD_eq_getElem?_getD];omega
theorem atRow_zero{N:Nat}{l:List Nat}{b:Nat}:∀n,n≤l.length→(b∉l.take n)→(atRow N l n).getD b 0=0
 |0,_,_=>by simp[atRow,List.getD,List.getElem?_replicate];split<;>simp
 |n+1,hn,h=>by
  rw[List.take_succ_eq_append_getElem ZO]at h;simp only[List.mem_append,List.mem_singleton,not_or]at h;have hg:l.getD n 0=l[n]:=by simp[List.getD,show n<l.length from ZO]
  rw[atRow,hg,List.getD,List.getElem?_set_ne (fun e=>h.2 e.symm),← List.getD_eq_getElem?_getD];exact atRow_zero n ZO h.1
theorem atRow_at{N:Nat}{l:List Nat}(hnd:l.Nodup)(hlt:∀x∈l,x<N):∀n,n≤l.length→∀i (hi:i<l.length),i<n→(atRow N l n).getD l[i] 0=i+1
 |0,_,i,_,h=>absurd h (Nat.not_lt_zero _)
 |n+1,hn,i,hi,h=>by
  have hg:l.getD n 0=l[n]'(ZO):=by simp[List.getD,show n<l.length from ZO]
  rw[atRow,hg]
  by_cases e:i=n
  · subst e
    have:l[i]<(atRow N l i).length:=by rw[atRow_len];exact hlt _ (List.getElem_mem hi)
    simp[List.getD,List.getElem?_set_self this]
  · have hne:l[n]'(ZO)≠l[i]:=fun e'=>e ((List.getElem_inj hnd).1 e').symm
    rw[List.getD,List.getElem?_set_ne hne,← List.getD_eq_getElem?_getD];exact atRow_at hnd hlt n ZO i hi ZO
theorem pw_symm:∀{l:List Nat},l.Pairwise (fun a b=>a≠b)→l.Pairwise (fun a b=>b≠a)
 |[],_=>.nil
 |_::_,h=>by
  rw[List.pairwise_cons]at h ⊢;exact⟨fun x hx e=>h.1 x hx e.symm,pw_symm h.2⟩
theorem nodup_rev{l:List Nat}(h:l.Nodup):l.reverse.Nodup:=by
 unfold List.Nodup at *;rw[List.pairwise_reverse];exact pw_symm h
def pl(N:Nat)(l:List Nat)(b:Nat):Nat:=(atRow N l l.length).getD b 0
end Go.Proofs.YtlhhfcleioikoaaGreatDoor
