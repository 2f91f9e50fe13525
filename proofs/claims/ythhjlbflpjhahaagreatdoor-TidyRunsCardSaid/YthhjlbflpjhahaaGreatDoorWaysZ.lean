/- The plain law of GraphRises: where each block stands in the order. -/
import Derived.Test.YthhjlbflpjhahaaGreatDoorPredsZ
import Derived.Test.YthhjlbflpjhahaaGreatDoorRefRZ
import Derived.Test.YthhjlbflpjhahaaGreatDoorAboveZ
namespace Go.Proofs.YthhjlbflpjhahaaGreatDoor
open Go.RowKit
set_option maxRecDepth 100000
theorem parOk_at{E:Nat→List Nat}:∀{out:List Nat},ParOk E [] out→∀i (hi:i<out.length),out[i]=0∨∃j,∃hj:j<out.length,i<j∧out[i]∈E out[j]
 |v::post,⟨h1,h2⟩,0,_=>by
  rcases h1 with h|⟨p,hp,h|h⟩
  · exact .inl h
  · cases h
  · obtain⟨k,hk,rfl⟩:=List.mem_iff_getElem.1 h
    exact .inr ⟨k+1,by simp;exact hk,ZO,by simpa using hp⟩
 |v::post,⟨h1,h2⟩,i+1,hi=>by
  rcases parOk_at h2 i (by simpa using hi)with h|⟨j,hj,h3,h4⟩
  · exact .inl (by simpa using h)
  · exact .inr ⟨j+1,by simp;exact hj,ZO,by simpa using h4⟩
section
variable {E:Nat→List Nat} {N:Nat} {out:List Nat}
theorem pl_pos(h:DfsFin E N out){b:Nat}:0<pl N out.reverse b↔b∈out:=by
 have hnd:out.reverse.Nodup:=nodup_rev h.nod;constructor
 · intro hp
   by_cases hb:b∈out
   · exact hb
   · unfold pl at hp
     rw[atRow_zero _ (Nr _) (by rw[List.take_length];simpa using hb)]at hp;exact absurd hp (Nat.lt_irrefl _)
 · intro hb
   obtain⟨i,hi,rfl⟩:=List.mem_iff_getElem.1 (List.mem_reverse.2 hb);unfold pl;rw[atRow_at hnd (fun x hx=>h.lt x (List.mem_reverse.1 hx)) _ (Nr _) i hi hi];omega
theorem pl_before(h:DfsFin E N out){b:Nat}(hb:b∈out):b=0∨∃a,a∈out∧b∈E a∧pl N out.reverse a<pl N out.reverse b:=by
 have hnd:out.reverse.Nodup:=nodup_rev h.nod;have hlt:∀x∈out.reverse,x<N:=fun x hx=>h.lt x (List.mem_reverse.1 hx)
 obtain⟨i,hi,rfl⟩:=List.mem_iff_getElem.1 hb;rcases parOk_at h.par i hi with h0|⟨j,hj,hij,he⟩
 · exact .inl h0
 · refine .inr ⟨out[j],List.getElem_mem hj,he,?_⟩
   have key:∀k (hk:k<out.length),pl N out.reverse out[k]=out.length-k:=by
    intro k hk;have h1:=atRow_at hnd hlt _ (Nr _) (out.length-1-k) ZX ZX;rw[List.getElem_reverse]at h1;have e:out.length-1-(out.length-1-k)=k:=by omega
    simp only[e]at h1;unfold pl;rw[h1];omega
   rw[key i hi,key j hj];omega
end
theorem EN_leads{F:PFunc}(h:typedP F=true){a b:Nat}(ha:a<F.blocks.length):b∈EN F a↔leads (F.blk a).term (b:Int)=true:=by
 rw[← endsOf_leads,EN_ints h ha];unfold ints;simp only[List.mem_map];constructor
 · intro hb;exact⟨b,hb,rfl⟩
 · rintro⟨c,hc,he⟩
   have:c=b:=by simp at he;omega
   rw[← this];exact hc
theorem post_fin{F:PFunc}(h:typedP F=true):DfsFin (EN F) F.blocks.length (postO F):=
 DfsFin.start (EN_len2 F) (fun _ hv c hc=>EN_lt h hv c hc) (shaped_count (typed_shaped h)).1
def ledB(F:PFunc)(b a:Nat):Bool:=decide (b=0)||(List.range a).any fun x=>leads (F.blk x).term (b:Int)&&decide (0<pl F.blocks.length (postO F).reverse x)
def behB(F:PFunc)(b a:Nat):Bool:=decide (b=0)||(List.range a).any fun x=>leads (F.blk x).term (b:Int)&&decide (0<pl F.blocks.length (postO F).reverse x)&&decide (pl F.blocks.length (postO F).reverse x<pl F.blocks.length (postO F).reverse b)
theorem EN_nodup(F:PFunc)(h:typedP F=true){b:Nat}(hb:b<F.blocks.length):(EN F b).Nodup:=by
 have he:=ends_in h hb;unfold EN;unfold endsOf at he ⊢;split
 · exact ZS
 · split
   · split
     · exact ZS
     · rename_i h0 h1 h2
       rw[if_neg h0,if_pos h1,if_neg h2]at he;have a0:=inB_true (he (F.blk b).term.t0 ZS);have a1:=inB_true (he (F.blk b).term.t1 ZS);simp;omega
   · exact ZS
theorem fold_row{i b:Nat}:∀{l:List Nat} {xss:List (List Int)},l.Nodup→b<xss.length→(l.foldl (addP i) xss).getD b []=if b∈l then xss.getD b []++[(i:Int)] else xss.getD b []
 |[],xss,_,_=>by simp
 |c::l,xss,hn,hb=>by
  rw[List.nodup_cons]at hn;rw[List.foldl_cons,fold_row hn.2 (by rw[addP_len];exact hb)]
  by_cases hc:b=c
  · subst hc
    rw[if_neg hn.1,if_pos ZS];simp[addP,List.getD,hb]
  · have e:(addP i xss c).getD b []=xss.getD b []:=by
     unfold addP;rw[List.getD,List.getElem?_set_ne (fun e=>hc e.symm),List.getD]
    rw[e]
    by_cases hl:b∈l
    · rw[if_pos hl,if_pos (by simp[hl])]
    · rw[if_neg hl,if_neg (by simp[hl,hc])]
def predRow(F:PFunc)(b:Nat):Nat→List Nat
 |0=>[]
 |i+1=>if leads (F.blk i).term (b:Int)=true then predRow F b i++[i] else predRow F b i
theorem predsF_row{F:PFunc}(h:typedP F=true){b:Nat}(hb:b<F.blocks.length):∀i,i≤F.blocks.length→(predsF F i).getD b []=ints (predRow F b i)
 |0,_=>by simp[predsF,predRow,ints,List.getD,hb]
 |i+1,hi=>by
  have ih:=predsF_row h hb i ZO;rw[predsF,fold_row (EN_nodup F h ZO) (by rw[predsF_len];exact hb),ih,predRow]
  by_cases hl:leads (F.blk i).term (b:Int)=true
  · rw[if_pos ((EN_leads h ZO).2 hl),if_pos hl]
    simp[ints]
  · rw[if_neg (fun e=>hl ((EN_leads h ZO).1 e)),if_neg hl]
theorem predRow_le{F:PFunc}{b:Nat}:∀i,(predRow F b i).length≤i
 |0=>by simp[predRow]
 |i+1=>by
  have:=predRow_le (F:=F) (b:=b) i;rw[predRow];split
  · exact ZX
  · exact ZO
end Go.Proofs.YthhjlbflpjhahaaGreatDoor
namespace Go.Proofs.YthhjlbflpjhahaaGreatDoor
open Go.RowKit
inductive Plus (R:Nat→Nat→Prop) (a:Nat):Nat→Prop
 |one {b:Nat}:R a b→Plus R a b
 |more {b c:Nat}:Plus R a b→R b c→Plus R a c
structure MarkInv (R:Nat→Nat→Prop) (n a:Nat) (t:List Bool):Prop where
 len:t.length=n
 way:∀x,t.getD x false=true→Plus R a x
def Closed(R:Nat→Nat→Prop)(a:Nat)(t:List Bool):Prop:=∀x y,(x=a∨t.getD x false=true)→R x y→t.getD y false=true
section
variable {R:Nat→Nat→Prop} {n a:Nat} {t:List Bool}
open Classical in
noncomputable def plusL (R:Nat→Nat→Prop) (n a:Nat):List Bool:=(List.range n).map fun x=>decide (Plus R a x)
def left(t:List Bool):Nat:=t.count false
end
theorem own_base{w:World}{B B' e sz n:Nat}{v:Value}{xs:List Value}(h:w.ownsRow B e sz v n xs)(hb:B'≤B):w.ownsRow B' e sz v n xs:=by
 obtain⟨h1,h2⟩:=h;refine⟨h1,?_⟩;rcases h2 with h2|⟨g,cap,cur,hv,hg,r⟩
 · exact .inl h2
 · exact .inr ⟨g,cap,cur,hv,Nat.le_trans hb hg,r⟩
theorem own_bool{w:World}{B e g n cap:Nat}{t:List Bool}(h:w.ownsRow B e 1 (.slice (some ⟨g,0,none⟩) n cap) n (t.map Value.bool)){i:Nat}(hi:i<n):w.cell? ⟨g,i,none⟩=some (.bool (t.getD i false)):=by
 have hl:t.length=n:=by have:=h.1;simpa using this
 rw[h.cellAt i ZO];simp[List.getD,hl,hi]
theorem bool_set{t:List Bool}{i:Nat}{b:Bool}:(t.map Value.bool).set i (.bool b)=(t.set i b).map Value.bool:=by rw[List.map_set]
end Go.Proofs.YthhjlbflpjhahaaGreatDoor
namespace Go.Proofs.YthhjlbflpjhahaaGreatDoor
open Go.RowKit
set_option maxRecDepth 100000
def RF(F:PFunc)(r:Int)(x y:Nat):Prop:=x<F.blocks.length∧y<F.blocks.length∧(x:Int)≠r∧(y:Int)≠r∧leads (F.blk x).term (y:Int)=true
def Mid(R:Nat→Nat→Prop)(a:Nat)(t:List Bool)(x:Nat)(t':List Bool)(m:Bool):Prop:=
 (m=false→t'=t∧∀x' y,x'<x→(x'=a∨t.getD x' false=true)→R x' y→t.getD y false=true)∧(m=true→left t'<left t)
def Inn(R:Nat→Nat→Prop)(a:Nat)(t:List Bool)(x y:Nat)(t':List Bool)(m:Bool):Prop:=
 (x=a∨t'.getD x false=true)∧(m=false→t'=t∧(∀x' y,x'<x→(x'=a∨t.getD x' false=true)→R x' y→t.getD y false=true)∧∀y',y'<y→R x y'→t.getD y' false=true)∧(m=true→left t'<left t)
section
variable {R:Nat→Nat→Prop} {n a x y:Nat} {t t':List Bool} {m:Bool}
end
theorem own_bool_ne{w:World}{B e g n b o:Nat}{k:IntKind}{x:Int}{t:List Bool}(h:w.ownsRow B e 1 (.slice (some ⟨g,0,none⟩) n n) n (t.map Value.bool))(hc:w.cell? ⟨b,o,none⟩=some (.int k x)):b≠g:=by
 rintro rfl
 by_cases ho:o<n
 · rw[own_bool h ho]at hc
   cases hc
 · rcases h.2 with⟨h0,_⟩|⟨g',cap,cur,hv,hg,hh,hn,hcap,hsz,_⟩
   · cases h0
   · cases hv
     rw[cell_of_row w b o cur e (0,0) hh,Array.getElem?_eq_none ZO]at hc;cases hc
def marksL(n:Nat)(l:List Nat):List Bool:=(List.range n).map fun x=>decide (x∈l)
theorem marksL_len{n:Nat}{l:List Nat}:(marksL n l).length=n:=by simp[marksL]
theorem marksL_nil{n:Nat}:marksL n []=List.replicate n false:=by
 refine List.ext_getElem (by simp[marksL]) fun i h1 h2=>?_
 simp[marksL]
theorem marksL_push{n x:Nat}{l:List Nat}:(marksL n l).set x true=marksL n (l++[x]):=by
 refine List.ext_getElem (by simp[marksL]) fun i h1 h2=>?_
 rw[List.getElem_set]
 by_cases h:x=i
 · subst h;simp[marksL]
 · rw[if_neg h]
   have:¬i=x:=fun e=>h e.symm
   simp[marksL,this]
set_option maxHeartbeats 4000000 in
theorem reach_calls{W w:World}{fv:Value}{F:PFunc}(hF:FnV W W.heap.size fv F)(hW:Below W.heap.size W w)(hT:typedP F=true) :
 Calls Tryz.prog 66 #[fv] w fun e w'=>∃g,e=.returned (.slice (some ⟨g,0,none⟩) F.blocks.length F.blocks.length)∧
  w'.ownsRow w.heap.size 4 1 (.slice (some ⟨g,0,none⟩) F.blocks.length F.blocks.length) F.blocks.length ((marksL F.blocks.length (postO F).reverse).map Value.bool)∧Below w.heap.size w w':=by
 have hor:=Lh (fun(w':World) (h:Below W.heap.size W w')=>order_calls hF h hT);obtain⟨n1,n2⟩:=shaped_count (typed_shaped hT);have fin:=Lh (post_fin hT);have hlt:=Lh (fun(x:Nat) (hx:x∈(postO F).reverse)=>fin.out.lt x (List.mem_reverse.1 hx));obtain⟨A0,c0,A1,c1,A2,c2,rfl,l0,l1,l2,-⟩:=id hF.open_;unfold Len at *;have hWs:=hW.size;have hb0:=(Br w.heap.size w).alloc (Nr _) (.cells #[.slice A0 F.vars.length c0,.slice A1 F.params.length c1,.slice A2 F.blocks.length c2] 26);obtain⟨ib,hib,hz0,hz1,hz2⟩:=info_parts Tryz.info4;generalize (postO F).reverse=L at *;clear hT fin;go_enter Tryz.func66,Tryz.ntmps66
 go_wp2_with(
  at_make;refine wpList_make_full _ rfl _ _ 72 rfl (w.heap.size+1) 4 ib _ 1 Tryz.underlying72 hib hz0 hz1 _ _ _ _ _ rfl rfl rfl rfl (by rw[hz2];omega) (by unfold maxLen;omega) ZS ?_;intro w1 hs1 hg1
  have hs2:w1.ownsRow (w.heap.size+1) 4 1 (.slice (some ⟨w.heap.size+1,0,none⟩) F.blocks.length F.blocks.length) F.blocks.length ((marksL F.blocks.length []).map Value.bool):=by rw[marksL_nil];simpa[Value.cells,toList_madeCells_one]using hs1
  have hg2:(w.alloc (.cells #[.slice A0 F.vars.length c0,.slice A1 F.params.length c1,.slice A2 F.blocks.length c2] 26)).grownBy w1 none:=hg1;have hbx:Below (w.heap.size+1) (w.alloc (.cells #[.slice A0 F.vars.length c0,.slice A1 F.params.length c1,.slice A2 F.blocks.length c2] 26)) w1:=(Br _ _).grown hg2 ZS (fun k hk=>by cases hk);obtain⟨hq,hq0,hq1,hq2⟩:=box3 hbx
  clear hs1 hg1 hg2)
 have hB:=hb0.trans (hbx.mono (Nat.le_succ _));refine(hor.out _ (hW.trans (hB.mono hWs))).mono ?_;(rintro e w3 ⟨A3,c3,rfl,l3,k3,r3,hb3⟩;obtain⟨hc3,hf3⟩:=bcell hb3;have hz3:=hb3.size;try simp at hz3;try have hy3:=Nl hz3;try have hx3:=Ns hy3;try have hw3:=Ns hx3);have hs3:=own_below hs2 hb3;have hB3:=hB.trans (hb3.mono hB.size);have hlen:(ints L).length=L.length:=by simp[ints]
 have hith:∀i,i<L.length→ith (ints L) i=((L.getD i 0:Nat):Int):=fun i hi=>by simp[ith,ints,List.getD,hi]
 replace hith:=Lh hith;have hlen':=Lh hlen;rw[hlen]at l3 ⊢;unfold Len at l3;clear hq0 hq1 hq2 hs2 hc3 hf3 hlen k3;go_wp2_with fail
 go_loopw[13] (fun i wr=>∃n:Nat,i=.int .i64 n∧n≤L.length∧w3.heap.size≤wr.heap.size∧(∀p:Addr,p.block≠w.heap.size+1→wr.cell? p=w3.cell? p)∧Below w.heap.size w wr∧wr.ownsRow (w.heap.size+1) 4 1 (.slice (some ⟨w.heap.size+1,0,none⟩) F.blocks.length F.blocks.length) F.blocks.length ((marksL F.blocks.length (L.take n)).map Value.bool)) (fun i _=>L.length-(intOf i).toNat)
 case atStart=>exact⟨0,rfl,Nz _,Nr _,fun _ _=>rfl,hB3,by simpa using hs3⟩
 case round=>as_aux_lemma=>
  obtain⟨n,rfl,hn,hsz,hsame,hb,ho⟩:=hrel
  by_cases hnl:n<L.length
  · obtain⟨b,off,rfl,hbl,hc⟩:=r3.int (Br _ _) (i:=n) (by rw[hlen'.out];exact hnl)
    have hbne:=own_bool_ne hs3 hc;rw[hith.out n hnl]at hc;have hmem:L.getD n 0∈L:=by rw[getD_get hnl];exact List.getElem_mem hnl
    have hbn:=hlt.out _ hmem;have hst:L.take (n+1)=L.take n++[L.getD n 0]:=by rw[List.take_succ_eq_append_getElem hnl,getD_get hnl]
    have HST:=Lh hst;have hcr:=(hsame ⟨b,off+n,none⟩ hbne).trans hc;have hbl':=Nt hbl hsz;generalize L.getD n 0=c at *;have hcell:=own_bool ho hbn;have hfz:=ho.frozenAt c;have hgl:=(ho.lt _ rfl).2;have HSM:=Lh hsame;clear hst hc hsame;go_wp2;go_roundw
    case rel=>
     refine⟨n+1,ZN,ZO,by simpa using hsz,fun p hp=>?_,hb.setCell (Nat.le_succ _) _,?_⟩
     · rw[World.cell?_setCell_other (h:=fun e=>hp (by rw[← e]))]
       exact HSM.out p hp
     · rw[HST.out,← marksL_push,← bool_set]
       exact(ho.stored c (.bool true)).1
    case measure=>simp[intOf];omega
  · obtain rfl:n=L.length:=by omega
    rw[List.take_length]at ho;clear hsame;go_wp2;go_ret;exact⟨_,rfl,own_base ho (Nat.le_succ _),hb⟩
def RetBools(w:World)(bs:List Bool)(e:Ending)(w':World):Prop:=
 ∃g,e=.returned (.slice (some ⟨g,0,none⟩) bs.length bs.length)∧w'.ownsRow w.heap.size 4 1 (.slice (some ⟨g,0,none⟩) bs.length bs.length) bs.length (bs.map Value.bool)∧Below w.heap.size w w'
end Go.Proofs.YthhjlbflpjhahaaGreatDoor
namespace Go.Proofs.YthhjlbflpjhahaaGreatDoor
open Go.RowKit
theorem marksL_at{n x:Nat}{l:List Nat}(hx:x<n):(marksL n l).getD x false=true↔x∈l:=by simp[marksL,List.getD,hx]
end Go.Proofs.YthhjlbflpjhahaaGreatDoor
namespace Go.Proofs.YthhjlbflpjhahaaGreatDoor
open Go.RowKit
def PR(F:PFunc)(b:Nat):List Nat:=predRow F b F.blocks.length
def OR(F:PFunc):List Nat:=(postO F).reverse
theorem nodup_len:∀(n:Nat) (l:List Nat),l.Nodup→(∀x∈l,x<n)→l.length≤n
 |0,l,_,hl=>by
  cases l with
  |nil=>simp
  |cons x r=>exact absurd (hl x ZS) (Nat.not_lt_zero _)
 |n+1,l,hn,hl=>by
  by_cases hm:n∈l
  · have ih:=nodup_len n (l.erase n) (hn.erase n) (fun x hx=>by
     have h1:=hl x (List.mem_of_mem_erase hx);have h2:x≠n:=fun e=>by subst e;exact(hn.not_mem_erase) hx
     omega)
    rw[List.length_erase_of_mem hm]at ih;omega
  · have ih:=nodup_len n l hn (fun x hx=>by
     have h1:=hl x hx;have h2:x≠n:=fun e=>by subst e;exact hm hx
     omega)
    omega
end Go.Proofs.YthhjlbflpjhahaaGreatDoor
