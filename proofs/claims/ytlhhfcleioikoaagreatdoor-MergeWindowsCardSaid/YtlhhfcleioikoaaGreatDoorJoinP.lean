/- graph.joined of a typed program: has each phi a pair of each block that leads there? The reference's Joined of a typed program: ref10.Joined. The plain law of Joined: sorted rows, and pairs one by one. No program's code in sight. -/
import Derived.Test.YtlhhfcleioikoaaGreatDoorSlc
import Derived.Test.YtlhhfcleioikoaaGreatDoorPreds
import Derived.Test.YtlhhfcleioikoaaGreatDoorWays
namespace Go.Proofs.YtlhhfcleioikoaaGreatDoor
open Go.RowKit
set_option maxRecDepth 100000
structure Bnd (F:PFunc):Prop where
 vars:F.vars.length≤100000
 params:F.params.length≤100000
 blocks:F.blocks.length≤100000
 parts:∀b∈F.blocks,b.phis.length≤100000∧b.insts.length≤100000
 pairs:∀b∈F.blocks,∀p∈b.phis,p.args.length≤100000∧p.froms.length≤100000
 args:∀b∈F.blocks,∀x∈b.insts,x.args.length≤100000
def joinPhi(F:PFunc)(i:Nat)(p:PPhi):Bool:=decide (sortI p.froms=(predsOf F).getD i [])
def joinedB(F:PFunc):Bool:=(List.range F.blocks.length).all fun i=>(F.blk i).phis.all (joinPhi F i)
theorem joined_no{F:PFunc}{i k:Nat}(hi:i<F.blocks.length)(hk:k<(F.blk i).phis.length)(h:joinPhi F i ((F.blk i).phi k)=false):joinedB F=false:=by
 rw[← Bool.not_eq_true];intro hj;unfold joinedB at hj;rw[List.all_eq_true]at hj;have:=List.all_eq_true.1 (hj i (by simp[hi])) _ (mem_of_Phi hk);rw[h]at this;cases this
theorem joined_yes{F:PFunc}(h:∀i,i<F.blocks.length→∀k,k<(F.blk i).phis.length→joinPhi F i ((F.blk i).phi k)=true):joinedB F=true:=by
 unfold joinedB;rw[List.all_eq_true];intro i hi;rw[List.all_eq_true];intro p hp;obtain⟨k,hk,rfl⟩:=List.getElem_of_mem hp;have:=h i (by simpa using hi) k hk
 rwa [PBlock.phi,getD_get hk]at this
set_option maxHeartbeats 4000000 in
theorem joined_calls{W w:World}{fv:Value}{F:PFunc}(hF:FnV W W.heap.size fv F)(hW:Below W.heap.size W w)(hT:typedP F=true)(hB:Bnd F) :
 Calls Tryz.prog 126 #[fv] w fun e w'=>e=.returned (.bool (joinedB F))∧Below w.heap.size w w':=by
 have ho:=fun(w:World) (h:Below W.heap.size W w)=>preds_calls hF h hT
 have hlen:(predsOf F).length=F.blocks.length:=predsF_len _;have hBB:=Lib.hid (fun i (hi:i<F.blocks.length) k (hk:k<(F.blk i).phis.length)=>(hB.pairs _ (mem_of_blk hi) _ (mem_of_Phi hk)).2);clear hT hB;have hWs:=hW.size;obtain⟨A0,c0,A1,c1,A2,c2,rfl,l0,l1,l2,-,-,-,r0,r1,r2⟩:=id hF.open_;unfold Len at *;have hb0:=(Below.refl w.heap.size w).alloc (Nat.le_refl _) (.cells #[.slice A0 F.vars.length c0,.slice A1 F.params.length c1,.slice A2 F.blocks.length c2] 26);have hjn:=Lib.hid (fun i k (hi:i<F.blocks.length) (hk:k<(F.blk i).phis.length) (h:joinPhi F i ((F.blk i).phi k)=false)=>joined_no hi hk h);have hjy:=Lib.hid (fun h=>joined_yes (F:=F) h);have hjp:Hid (∀i p,joinPhi F i p=decide (sortI p.froms=(predsOf F).getD i [])):=fun _ _=>rfl
 generalize predsOf F=L at *;generalize joinedB F=J at *;go_enter Tryz.func126,Tryz.ntmps126;go_wp2_with(go_at_call 85;refine(ho _ BL).mono ?_;(rintro e w5 ⟨A5,c5,rfl,l5,k5,r5,hb5⟩;obtain⟨hc5,hf5⟩:=bcell hb5;have hz5:=hb5.size;try simp at hz5;try have hy5:=Nat.lt_of_succ_le hz5;try have hx5:=Nat.lt_of_succ_lt hy5;try have hw5:=Nat.lt_of_succ_lt hx5));have hbx:Below (w.heap.size+1) (w.alloc (.cells #[.slice A0 F.vars.length c0,.slice A1 F.params.length c1,.slice A2 F.blocks.length c2] 26)) w5:=by simpa using hb5
 clear hc5 hf5 ho;rw[hlen]at l5 k5
 go_loopw[14] (fun i wr=>∃n:Nat,i=.int .i64 n∧n≤F.blocks.length∧Hid (∀m,m<n→∀k,k<(F.blk m).phis.length→joinPhi F m ((F.blk m).phi k)=true)∧Below (w.heap.size+1) (w.alloc (.cells #[.slice A0 F.vars.length c0,.slice A1 F.params.length c1,.slice A2 F.blocks.length c2] 26)) wr∧Below w5.heap.size w5 wr) (fun i _=>F.blocks.length-(intOf i).toNat)
 case atStart=>exact⟨0,rfl,Nat.zero_le _,fun m hm=>absurd hm (Nat.not_lt_zero _),hbx,Below.refl _ _⟩
 case round=>as_aux_lemma=>
  obtain⟨n,rfl,hn,HA,hb,hb9⟩:=hrel;have hB:=hb0.trans (hb.mono (Nat.le_succ _));have hWr:Below W.heap.size W wr:=hW.trans (hB.mono hWs)
  by_cases hlt:n<F.blocks.length
  · obtain⟨bb,off,A3,c3,A4,c4,rfl,hbb,hnz,hy0,hy1,hy2,hy3,hy4,hy5,hy6,l3,l4,k3,k4,r3,r4⟩:=r2.blk hWr hlt
    unfold Len at l3 l4;obtain⟨wq,rfl⟩:∃wq:World,wq=wr:=⟨_,rfl⟩;go_wp2
    go_loopw[22] (fun i wr=>∃k:Nat,i=.int .i64 k∧k≤(F.blk n).phis.length∧Hid (∀j,j<k→joinPhi F n ((F.blk n).phi j)=true)∧Below wq.heap.size wq wr) (fun i _=>(F.blk n).phis.length-(intOf i).toNat)
    case atStart=>exact⟨0,rfl,Nat.zero_le _,fun m hm=>absurd hm (Nat.not_lt_zero _),BL⟩
    case round=>as_aux_lemma=>
     obtain⟨k,rfl,hk,HK,hbi⟩:=hrel;have hbr:Below w5.heap.size w5 wr:=hb9.trans (hbi.mono hb9.size);have hBr:Below w.heap.size w wr:=hB.trans (hbi.mono hB.size);have hWi:Below W.heap.size W wr:=hW.trans (hBr.mono hWs)
     by_cases hkl:k<(F.blk n).phis.length
     · obtain⟨bp,op,A6,c6,A7,c7,rfl,hbp,hp0,hp1,hp2,-,-,-,-,-,r7⟩:=r3.phi hWi hkl
       have hfb:=hBB.out n hlt k hkl;obtain⟨br,of,A8,c8,rfl,hbrl,hcr,lr,kr,rr⟩:=RowRd r5 hbr (i:=n) (by rw[hlen];exact hlt);clear hy0 hy1 hy2 hy3 hy4 hy5 hy6 hnz;obtain⟨wv,rfl⟩:∃wv:World,wv=wr:=⟨_,rfl⟩;have r7':=r7.move hWi;obtain⟨d,hd⟩:∃d,joinPhi F n ((F.blk n).phi k)=d:=⟨_,rfl⟩;have HJ:=Lib.hid hd;rw[hjp.out]at hd;have HD:=Lib.hid hd;clear hd;generalize hPh:((F.blk n).phi k)=ph at *;have HP:=Lib.hid hPh;clear hPh;generalize L.getD n []=Ln at *;cases d
       all_goals
        go_wp2_with(first
         |(go_at_call 72;refine(clone_calls (r7.move BL) ZO).mono ?_;rintro e w6 ⟨v6,rfl,ho6,hb6⟩;obtain⟨A9,c9,rfl⟩:=own_form ho6)
         |(go_at_call 99;refine(sort_calls ho6 ZO).mono ?_;rintro e w7 ⟨rfl,ho7,hb7⟩
           have hB7:Below wv.heap.size wv w7:=hb7 _ _ BL ZS;have hcr7:=(hB7.cell (p:=⟨br,of+n,none⟩) hbrl).trans hcr
           have hbr7:=Nat.lt_of_lt_of_le hbrl hB7.size)
         |(go_at_call 161
           refine(equalN_calls (Rd.of_own ho7).2.2 (rr.move (hbr.trans (hB7.mono hbr.size))) (by rw[sortI_len]) rfl (by unfold Len;omega) lr).mono ?_;rintro e w8 ⟨he8,hb8⟩;rw[HD.out]at he8
           subst he8))
       · go_ret
         exact⟨ret_bool (hjn.out n k hlt hkl (by rw[HP.out];exact HJ.out)).symm,hBr.trans (hB7.mono hBr.size) |>.trans (hb8.mono (hBr.trans (hB7.mono hBr.size)).size)⟩
       · go_roundw
         case rel=>exact⟨k+1,ZN,ZO,fun j hj=>if h:j<k then HK.out j h else by
          obtain rfl:j=k:=by omega
          rw[HP.out];exact HJ.out,hbi.trans (hB7.mono hbi.size) |>.trans (hb8.mono (hbi.trans (hB7.mono hbi.size)).size)⟩
         case measure=>simp[intOf];omega
     · go_wp2
       go_roundw
       case rel=>exact⟨n+1,ZN,ZO,fun m hm j hj=>if h:m<n then HA.out m h j hj else by
        obtain rfl:m=n:=by omega
        exact HK.out j ZO,hb.trans (hbi.mono (by have:=hb.size;simp at this;omega)),hbr⟩
       case measure=>simp[intOf];omega
  · go_wp2
    go_ret;exact⟨ret_bool (hjy.out fun i hi k hk=>HA.out i ZO k hk).symm,hB⟩
end Go.Proofs.YtlhhfcleioikoaaGreatDoor
namespace Go.Proofs.YtlhhfcleioikoaaGreatDoor
open Go.RowKit
set_option maxRecDepth 100000
def fromOk(F:PFunc)(i:Nat)(fs:List Int)(k:Nat):Bool:=leads (F.blk (ith fs k).toNat).term (i:Int)&&(List.range k).all fun j=>ith fs j !=ith fs k
def phiOk(F:PFunc)(i:Nat)(p:PPhi):Bool:=decide ((predRow F i F.blocks.length).length=p.froms.length)&&(List.range p.froms.length).all (fromOk F i p.froms)
def refJoinB(F:PFunc):Bool:=(List.range F.blocks.length).all fun i=>(F.blk i).phis.all (phiOk F i)
theorem refj_no{F:PFunc}{i k:Nat}(hi:i<F.blocks.length)(hk:k<(F.blk i).phis.length)(h:phiOk F i ((F.blk i).phi k)=false):refJoinB F=false:=by
 rw[← Bool.not_eq_true];intro hj;unfold refJoinB at hj;rw[List.all_eq_true]at hj;have:=List.all_eq_true.1 (hj i (by simp[hi])) _ (mem_of_Phi hk);rw[h]at this;cases this
theorem refj_yes{F:PFunc}(h:∀i,i<F.blocks.length→∀k,k<(F.blk i).phis.length→phiOk F i ((F.blk i).phi k)=true):refJoinB F=true:=by
 unfold refJoinB;rw[List.all_eq_true];intro i hi;rw[List.all_eq_true];intro p hp;obtain⟨k,hk,rfl⟩:=List.getElem_of_mem hp;have:=h i (by simpa using hi) k hk
 rwa [PBlock.phi,getD_get hk]at this
theorem phiOk_count{F:PFunc}{i:Nat}{p:PPhi}(h:¬(predRow F i F.blocks.length).length=p.froms.length):phiOk F i p=false:=by
 unfold phiOk;rw[decide_eq_false h];rfl
theorem phiOk_from{F:PFunc}{i k:Nat}{p:PPhi}(hk:k<p.froms.length)(h:fromOk F i p.froms k=false):phiOk F i p=false:=by
 rw[← Bool.not_eq_true];intro hj;unfold phiOk at hj;rw[Bool.and_eq_true,List.all_eq_true]at hj;have:=hj.2 k (by simpa using hk);rw[h]at this;cases this
theorem phiOk_yes{F:PFunc}{i:Nat}{p:PPhi}(hc:(predRow F i F.blocks.length).length=p.froms.length)(h:∀k,k<p.froms.length→fromOk F i p.froms k=true):phiOk F i p=true:=by
 unfold phiOk;rw[Bool.and_eq_true,List.all_eq_true];exact⟨by simpa using hc,fun k hk=>h k (by simpa using hk)⟩
theorem fromOk_leads{F:PFunc}{i k:Nat}{fs:List Int}(h:leads (F.blk (ith fs k).toNat).term (i:Int)=false):fromOk F i fs k=false:=by
 unfold fromOk;rw[h];rfl
theorem fromOk_twin{F:PFunc}{i k j:Nat}{fs:List Int}(hj:j<k)(h:ith fs j=ith fs k):fromOk F i fs k=false:=by
 rw[← Bool.not_eq_true];intro hh;unfold fromOk at hh;rw[Bool.and_eq_true,List.all_eq_true]at hh;have:=hh.2 j (by simpa using hj);rw[h]at this;simp at this
theorem fromOk_yes{F:PFunc}{i k:Nat}{fs:List Int}(hl:leads (F.blk (ith fs k).toNat).term (i:Int)=true)(h:∀j,j<k→ith fs j≠ith fs k):fromOk F i fs k=true:=by
 unfold fromOk;rw[Bool.and_eq_true,List.all_eq_true];exact⟨hl,fun j hj=>by simpa using h j (by simpa using hj)⟩
theorem typed_from{F:PFunc}(hT:typedP F=true){i k j:Nat}(hi:i<F.blocks.length)(hk:k<(F.blk i).phis.length)(hj:j<((F.blk i).phi k).froms.length):0≤ith ((F.blk i).phi k).froms j∧ith ((F.blk i).phi k).froms j<F.blocks.length:=by
 have h1:=(shaped_blk (typed_shaped hT) hi).1 _ (mem_of_Phi hk);unfold phiB at h1;simp only[Bool.and_eq_true]at h1;have h2:=h1.2;unfold atsB at h2;exact inB_true (List.all_eq_true.1 h2 _ (List.mem_of_getElem? (ith_get hj)))
end Go.Proofs.YtlhhfcleioikoaaGreatDoor
namespace Go.Proofs.YtlhhfcleioikoaaGreatDoor
open Go.RowKit
set_option maxRecDepth 100000
theorem sub_len{l m:List Int}(hn:l.Nodup)(hs:∀x∈l,x∈m):l.length≤m.length:=by
 induction l generalizing m with
 |nil=>simp
 |cons a l ih=>
  rw[List.nodup_cons]at hn;have h1:=ih (m:=m.erase a) hn.2 (fun x hx=>(List.mem_erase_of_ne (by rintro rfl;exact hn.1 hx)).2 (hs x (by simp[hx])));have hm:=hs a ZS;rw[List.length_erase_of_mem hm]at h1;have:=List.length_pos_of_mem hm;rw[List.length_cons];omega
theorem predRow_mem{F:PFunc}{b x:Nat}:∀{i:Nat},x∈predRow F b i↔x<i∧leads (F.blk x).term (b:Int)=true
 |0=>by simp[predRow]
 |i+1=>by
  rw[predRow];split
  · rename_i h
    rw[List.mem_append,List.mem_singleton,predRow_mem];constructor
    · rintro(⟨h1,h2⟩|rfl)
      · exact⟨ZO,h2⟩
      · exact⟨ZO,h⟩
    · rintro⟨h1,h2⟩
      by_cases e:x=i
      · exact .inr e
      · exact .inl ⟨ZO,h2⟩
  · rename_i h
    rw[predRow_mem];constructor
    · rintro⟨h1,h2⟩;exact⟨ZO,h2⟩
    · rintro⟨h1,h2⟩
      refine⟨?_,h2⟩
      by_cases e:x=i
      · subst e;exact absurd h2 h
      · exact ZO
theorem predRow_pair{F:PFunc}{b:Nat}:∀(i:Nat),(predRow F b i).Pairwise (·<·)
 |0=>by simp[predRow]
 |i+1=>by
  rw[predRow];split
  · rw[List.pairwise_append]
    refine⟨predRow_pair i,List.pairwise_singleton _ _,fun x hx y hy=>?_⟩;rw[List.mem_singleton]at hy;subst hy;exact(predRow_mem.1 hx).1
  · exact predRow_pair i
theorem ints_pair{l:List Nat}(h:l.Pairwise (·<·)):(ints l).Pairwise (·<·):=by
 unfold ints;rw[List.pairwise_map];exact h.imp fun h=>by simpa using h
theorem sort_row{xs ys:List Int}(hy:ys.Pairwise (·<·)):sortI xs=ys↔xs.Perm ys:=by
 constructor
 · intro h
   rw[← h];exact(List.mergeSort_perm xs _).symm
 · intro h
   have hs:(sortI xs).Pairwise fun a b=>decide (a≤b)=true:=List.pairwise_mergeSort (le:=fun x y:Int=>decide (x≤y)) (fun a b c h1 h2=>by simp at *;omega) (fun a b=>ZX) xs
   refine List.Perm.eq_of_pairwise (le:=fun a b=>decide (a≤b)=true) (fun a b _ _ h1 h2=>by simp at h1 h2;omega) hs (hy.imp fun h=>ZX) ((List.mergeSort_perm xs _).trans h)
theorem nodup_ith{fs:List Int}:fs.Nodup↔∀k,k<fs.length→∀j,j<k→ith fs j≠ith fs k:=by
 rw[List.nodup_iff_pairwise_ne,List.pairwise_iff_getElem];constructor
 · intro h k hk j hj
   have:=h j k ZO hk hj;simpa[ith,List.getD,hk,(by omega:j<fs.length)]using this
 · intro h i j hi hj hij
   have:=h j hj i hij;simpa[ith,List.getD,hi,hj]using this
theorem join_phi{F:PFunc}(hT:typedP F=true){i:Nat}(hi:i<F.blocks.length){p:PPhi}(hb:∀k,k<p.froms.length→0≤ith p.froms k∧ith p.froms k<F.blocks.length):joinPhi F i p=phiOk F i p:=by
 have hrow:(predsOf F).getD i []=ints (predRow F i F.blocks.length):=predsF_row hT hi _ (Nat.le_refl _);have hp:=ints_pair (predRow_pair (F:=F) (b:=i) F.blocks.length);have hnd:(ints (predRow F i F.blocks.length)).Nodup:=hp.imp fun h=>by omega
 have hmem:∀x:Int,x∈ints (predRow F i F.blocks.length)↔0≤x∧x<F.blocks.length∧leads (F.blk x.toNat).term (i:Int)=true:=fun x=>by
  unfold ints;rw[List.mem_map];constructor
  · rintro⟨a,ha,rfl⟩
    have:=predRow_mem.1 ha;exact⟨ZS,ZX,by simpa using this.2⟩
  · rintro⟨h0,h1,h2⟩
    exact⟨x.toNat,predRow_mem.2 ⟨ZO,h2⟩,ZX⟩
 rw[Bool.eq_iff_iff,joinPhi,decide_eq_true_iff,hrow,sort_row hp];constructor
 · intro h
   have hl:=h.length_eq;have hn:=(h.nodup_iff).2 hnd;refine phiOk_yes (by rw[hl];simp[ints]) fun k hk=>fromOk_yes ?_ fun j hj=>nodup_ith.1 hn k hk j hj
   have:=(h.mem_iff).1 (List.mem_of_getElem? (ith_get hk));exact((hmem _).1 this).2.2
 · intro h
   unfold phiOk at h;rw[Bool.and_eq_true,List.all_eq_true]at h;have hl:(ints (predRow F i F.blocks.length)).length=p.froms.length:=by simpa[ints]using h.1
   have hk:∀k,k<p.froms.length→leads (F.blk (ith p.froms k).toNat).term (i:Int)=true∧∀j,j<k→ith p.froms j≠ith p.froms k:=fun k hk=>by
    have:=h.2 k (by simpa using hk);unfold fromOk at this;rw[Bool.and_eq_true,List.all_eq_true]at this;exact⟨this.1,fun j hj=>by simpa using this.2 j (by simpa using hj)⟩
   have hn:p.froms.Nodup:=nodup_ith.2 fun k h j hj=>(hk k h).2 j hj
   have hsub:∀x∈p.froms,x∈ints (predRow F i F.blocks.length):=fun x hx=>by
    obtain⟨k,h1,rfl⟩:=List.getElem_of_mem hx;have he:ith p.froms k=p.froms[k]:=by simp[ith,List.getD,h1]
    have b:=hb k h1;have l:=(hk k h1).1;rw[he]at b l;exact(hmem _).2 ⟨b.1,b.2,l⟩
   refine(List.perm_ext_iff_of_nodup hn hnd).2 fun y=>⟨hsub y,fun hy=>?_⟩
   refine Classical.byContradiction fun hny=>?_
   have:=sub_len (l:=y::p.froms) (m:=ints (predRow F i F.blocks.length)) (List.nodup_cons.2 ⟨hny,hn⟩) (fun x hx=>by
    rcases List.mem_cons.1 hx with rfl|h
    · exact hy
    · exact hsub x h)
   rw[List.length_cons]at this;omega
theorem join_eq{F:PFunc}(hT:typedP F=true):joinedB F=refJoinB F:=by
 have h:∀i,i<F.blocks.length→∀p∈(F.blk i).phis,joinPhi F i p=phiOk F i p:=fun i hi p hp=>by
  obtain⟨k,hk,rfl⟩:=List.getElem_of_mem hp;have e:(F.blk i).phi k=(F.blk i).phis[k]:=by rw[PBlock.phi,getD_get hk]
  refine join_phi hT hi fun j hj=>?_
  rw[← e];exact typed_from hT hi hk (by rw[e];exact hj)
 unfold joinedB refJoinB;rw[Bool.eq_iff_iff,List.all_eq_true,List.all_eq_true];constructor
 · intro hh i hi
   have:=hh i hi;rw[List.all_eq_true]at this ⊢;intro p hp;rw[← h i (by simpa using hi) p hp];exact this p hp
 · intro hh i hi
   have:=hh i hi;rw[List.all_eq_true]at this ⊢;intro p hp;rw[h i (by simpa using hi) p hp];exact this p hp
end Go.Proofs.YtlhhfcleioikoaaGreatDoor
