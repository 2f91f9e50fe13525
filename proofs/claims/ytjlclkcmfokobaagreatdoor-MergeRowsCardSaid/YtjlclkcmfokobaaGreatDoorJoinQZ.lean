/- graph.joined of a typed program: has each phi a pair of each block that leads there? The reference's Joined of a typed program: ref10.Joined. -/
import Derived.Test.YtjlclkcmfokobaaGreatDoorSlcZ
import Derived.Test.YtjlclkcmfokobaaGreatDoorPredsZ
import Derived.Test.YtjlclkcmfokobaaGreatDoorWaysZ
import Derived.Test.YtjlclkcmfokobaaGreatDoorZedZ
namespace Go.Proofs.YtjlclkcmfokobaaGreatDoor
open Go.RowKit
set_option maxRecDepth 100000
structure Bnd (F:PFunc):Prop where
 vars:F.vars.length≤100000
 params:F.params.length≤100000
 blocks:F.blocks.length≤100000
 parts:∀b∈F.blocks,b.phis.length≤100000∧b.insts.length≤100000
 pairs:∀b∈F.blocks,∀p∈b.phis,p.args.length≤100000∧p.froms.length≤100000
 args:∀b∈F.blocks,∀x∈b.insts,x.args.length≤100000
def Ybv(F:PFunc)(i:Nat)(p:PPhi):Bool:=decide (Ya0 p.froms=(YaO F).getD i [])
def Yai(F:PFunc):Bool:=(List.range F.blocks.length).all fun i=>(F.blk i).phis.all (Ybv F i)
theorem Ymx{F:PFunc}{i k:Nat}(hi:i<F.blocks.length)(hk:k<(F.blk i).phis.length)(h:Ybv F i ((F.blk i).phi k)=false):Yai F=false:=by
 rw[← Bool.not_eq_true];intro hj;unfold Yai at hj;rw[List.all_eq_true]at hj;have:=List.all_eq_true.1 (hj i (by simp[hi])) _ (Ybo hk);rw[h]at this;cases this
theorem Ymy{F:PFunc}(h:∀i,i<F.blocks.length→∀k,k<(F.blk i).phis.length→Ybv F i ((F.blk i).phi k)=true):Yai F=true:=by
 unfold Yai;rw[List.all_eq_true];intro i hi;rw[List.all_eq_true];intro p hp;obtain⟨k,hk,rfl⟩:=List.getElem_of_mem hp;have:=h i (by simpa using hi) k hk
 rwa [PBlock.phi,YL hk]at this
set_option maxHeartbeats 4000000 in
theorem Ymz{W w:World}{fv:Value}{F:PFunc}(hF:FnV W W.heap.size fv F)(hW:Below W.heap.size W w)(hT:Yd F=true)(hB:Bnd F) :
 Calls Tryz.prog 148 #[fv] w fun e w'=>e=.returned (.bool (Yai F))∧Below w.heap.size w w':=by
 have ho:=fun(w:World) (h:Below W.heap.size W w)=>YfG hF h hT
 have hlen:(YaO F).length=F.blocks.length:=Yc3 _;have hBB:=Lh (fun i (hi:i<F.blocks.length) k (hk:k<(F.blk i).phis.length)=>(hB.pairs _ (Y4 hi) _ (Ybo hk)).2);clear hT hB;have hWs:=hW.size;obtain⟨A0,c0,A1,c1,A2,c2,rfl,l0,l1,l2,-,-,-,r0,r1,r2⟩:=id hF.open_;unfold Len at *;have hb0:=(Br w.heap.size w).alloc (Nr _) (.cells #[.slice A0 F.vars.length c0,.slice A1 F.params.length c1,.slice A2 F.blocks.length c2] 26);have hjn:=Lh (fun i k (hi:i<F.blocks.length) (hk:k<(F.blk i).phis.length) (h:Ybv F i ((F.blk i).phi k)=false)=>Ymx hi hk h);have hjy:=Lh (fun h=>Ymy (F:=F) h);have hjp:Hid (∀i p,Ybv F i p=decide (Ya0 p.froms=(YaO F).getD i [])):=fun _ _=>rfl
 generalize YaO F=L at *;generalize Yai F=J at *;go_enter Tryz.func148,Tryz.ntmps148;go_wp2_with(go_at_call 91;refine(ho _ BL).mono ?_;(rintro e w5 ⟨A5,c5,rfl,l5,k5,r5,hb5⟩;obtain⟨hc5,hf5⟩:=Ya hb5;have hz5:=hb5.size;try simp at hz5;try have hy5:=Nl hz5;try have hx5:=Ns hy5;try have hw5:=Ns hx5));have hbx:Below (w.heap.size+1) (w.alloc (.cells #[.slice A0 F.vars.length c0,.slice A1 F.params.length c1,.slice A2 F.blocks.length c2] 26)) w5:=by simpa using hb5
 clear hc5 hf5 ho;rw[hlen]at l5 k5
 go_loopw[14] (fun i wr=>∃n:Nat,i=.int .i64 n∧n≤F.blocks.length∧Hid (∀m,m<n→∀k,k<(F.blk m).phis.length→Ybv F m ((F.blk m).phi k)=true)∧Below (w.heap.size+1) (w.alloc (.cells #[.slice A0 F.vars.length c0,.slice A1 F.params.length c1,.slice A2 F.blocks.length c2] 26)) wr∧Below w5.heap.size w5 wr) (fun i _=>F.blocks.length-(intOf i).toNat)
 case atStart=>exact⟨0,rfl,Nz _,fun m hm=>absurd hm (Nat.not_lt_zero _),hbx,Br _ _⟩
 case round=>as_aux_lemma=>
  obtain⟨n,rfl,hn,HA,hb,hb9⟩:=hrel;have hB:=hb0.trans (hb.mono (Nat.le_succ _));have hWr:Below W.heap.size W wr:=hW.trans (hB.mono hWs)
  by_cases hlt:n<F.blocks.length
  · obtain⟨bb,off,A3,c3,A4,c4,rfl,hbb,hnz,hy0,hy1,hy2,hy3,hy4,hy5,hy6,l3,l4,k3,k4,r3,r4⟩:=r2.blk hWr hlt
    unfold Len at l3 l4;obtain⟨wq,rfl⟩:∃wq:World,wq=wr:=⟨_,rfl⟩;go_wp2
    go_loopw[22] (fun i wr=>∃k:Nat,i=.int .i64 k∧k≤(F.blk n).phis.length∧Hid (∀j,j<k→Ybv F n ((F.blk n).phi j)=true)∧Below wq.heap.size wq wr) (fun i _=>(F.blk n).phis.length-(intOf i).toNat)
    case atStart=>exact⟨0,rfl,Nz _,fun m hm=>absurd hm (Nat.not_lt_zero _),BL⟩
    case round=>as_aux_lemma=>
     obtain⟨k,rfl,hk,HK,hbi⟩:=hrel;have hbr:Below w5.heap.size w5 wr:=hb9.trans (hbi.mono hb9.size);have hBr:Below w.heap.size w wr:=hB.trans (hbi.mono hB.size);have hWi:Below W.heap.size W wr:=hW.trans (hBr.mono hWs)
     by_cases hkl:k<(F.blk n).phis.length
     · obtain⟨bp,op,A6,c6,A7,c7,rfl,hbp,hp0,hp1,hp2,-,-,-,-,-,r7⟩:=r3.phi hWi hkl
       have hfb:=hBB.out n hlt k hkl;obtain⟨br,of,A8,c8,rfl,hbrl,hcr,lr,kr,rr⟩:=YlM r5 hbr (i:=n) (by rw[hlen];exact hlt);clear hy0 hy1 hy2 hy3 hy4 hy5 hy6 hnz;obtain⟨wv,rfl⟩:∃wv:World,wv=wr:=⟨_,rfl⟩;have r7':=r7.move hWi;obtain⟨d,hd⟩:∃d,Ybv F n ((F.blk n).phi k)=d:=⟨_,rfl⟩;have HJ:=Lh hd;rw[hjp.out]at hd;have HD:=Lh hd;clear hd;generalize hPh:((F.blk n).phi k)=ph at *;have HP:=Lh hPh;clear hPh;generalize L.getD n []=Ln at *;cases d
       all_goals
        go_wp2_with(first
         |(go_at_call 79;refine(Ycz (r7.move BL) ZO).mono ?_;rintro e w6 ⟨v6,rfl,ho6,hb6⟩;obtain⟨A9,c9,rfl⟩:=Yp ho6)
         |(go_at_call 69;refine(YlH ho6 ZO).mono ?_;rintro e w7 ⟨rfl,ho7,hb7⟩
           have hB7:Below wv.heap.size wv w7:=hb7 _ _ BL ZS;have hcr7:=(hB7.cell (p:=⟨br,of+n,none⟩) hbrl).trans hcr
           have hbr7:=Nt hbrl hB7.size)
         |(go_at_call 183
           refine(YlJ (Rd.of_own ho7).2.2 (rr.move (hbr.trans (hB7.mono hbr.size))) (by rw[Yc6]) rfl (by unfold Len;omega) lr).mono ?_;rintro e w8 ⟨he8,hb8⟩;rw[HD.out]at he8
           subst he8))
       · go_ret
         exact⟨Yb (hjn.out n k hlt hkl (by rw[HP.out];exact HJ.out)).symm,hBr.trans (hB7.mono hBr.size) |>.trans (hb8.mono (hBr.trans (hB7.mono hBr.size)).size)⟩
       · go_roundw
         case rel=>exact⟨k+1,ZN,ZO,fun j hj=>if h:j<k then HK.out j h else by
          obtain rfl:j=k:=by omega
          rw[HP.out];exact HJ.out,hbi.trans (hB7.mono hbi.size) |>.trans (hb8.mono (hbi.trans (hB7.mono hbi.size)).size)⟩
         case measure=>simp[intOf];omega
     · go_wp2
       go_roundw
       case rel=>exact⟨n+1,ZN,ZO,fun m hm j hj=>if h:m<n then HA.out m h j hj else by
        obtain rfl:m=n:=by omega
        exact HK.out j ZO,hb.trans (hbi.mono (by have:=hb.size;simp at this;omega)),hbr⟩
       case measure=>simp[intOf];omega
  · go_wp2
    go_ret;exact⟨Yb (hjy.out fun i hi k hk=>HA.out i ZO k hk).symm,hB⟩
def YbG(F:PFunc)(i:Nat)(fs:List Int)(k:Nat):Bool:=leads (F.blk (ith fs k).toNat).term (i:Int)&&(List.range k).all fun j=>ith fs j !=ith fs k
def phiOk(F:PFunc)(i:Nat)(p:PPhi):Bool:=decide ((Yq F i F.blocks.length).length=p.froms.length)&&(List.range p.froms.length).all (YbG F i p.froms)
def Ybw(F:PFunc):Bool:=(List.range F.blocks.length).all fun i=>(F.blk i).phis.all (phiOk F i)
theorem YmA{F:PFunc}{i k:Nat}(hi:i<F.blocks.length)(hk:k<(F.blk i).phis.length)(h:phiOk F i ((F.blk i).phi k)=false):Ybw F=false:=by
 rw[← Bool.not_eq_true];intro hj;unfold Ybw at hj;rw[List.all_eq_true]at hj;have:=List.all_eq_true.1 (hj i (by simp[hi])) _ (Ybo hk);rw[h]at this;cases this
theorem YmB{F:PFunc}(h:∀i,i<F.blocks.length→∀k,k<(F.blk i).phis.length→phiOk F i ((F.blk i).phi k)=true):Ybw F=true:=by
 unfold Ybw;rw[List.all_eq_true];intro i hi;rw[List.all_eq_true];intro p hp;obtain⟨k,hk,rfl⟩:=List.getElem_of_mem hp;have:=h i (by simpa using hi) k hk
 rwa [PBlock.phi,YL hk]at this
theorem YmC{F:PFunc}{i:Nat}{p:PPhi}(h:¬(Yq F i F.blocks.length).length=p.froms.length):phiOk F i p=false:=by
 unfold phiOk;rw[decide_eq_false h];rfl
theorem YmD{F:PFunc}{i k:Nat}{p:PPhi}(hk:k<p.froms.length)(h:YbG F i p.froms k=false):phiOk F i p=false:=by
 rw[← Bool.not_eq_true];intro hj;unfold phiOk at hj;rw[Bool.and_eq_true,List.all_eq_true]at hj;have:=hj.2 k (by simpa using hk);rw[h]at this;cases this
theorem YhS{F:PFunc}{i:Nat}{p:PPhi}(hc:(Yq F i F.blocks.length).length=p.froms.length)(h:∀k,k<p.froms.length→YbG F i p.froms k=true):phiOk F i p=true:=by
 unfold phiOk;rw[Bool.and_eq_true,List.all_eq_true];exact⟨by simpa using hc,fun k hk=>h k (by simpa using hk)⟩
theorem YmE{F:PFunc}{i k:Nat}{fs:List Int}(h:leads (F.blk (ith fs k).toNat).term (i:Int)=false):YbG F i fs k=false:=by
 unfold YbG;rw[h];rfl
theorem YmF{F:PFunc}{i k j:Nat}{fs:List Int}(hj:j<k)(h:ith fs j=ith fs k):YbG F i fs k=false:=by
 rw[← Bool.not_eq_true];intro hh;unfold YbG at hh;rw[Bool.and_eq_true,List.all_eq_true]at hh;have:=hh.2 j (by simpa using hj);rw[h]at this;simp at this
theorem YhT{F:PFunc}{i k:Nat}{fs:List Int}(hl:leads (F.blk (ith fs k).toNat).term (i:Int)=true)(h:∀j,j<k→ith fs j≠ith fs k):YbG F i fs k=true:=by
 unfold YbG;rw[Bool.and_eq_true,List.all_eq_true];exact⟨hl,fun j hj=>by simpa using h j (by simpa using hj)⟩
theorem YdQ{F:PFunc}(hT:Yd F=true){i k j:Nat}(hi:i<F.blocks.length)(hk:k<(F.blk i).phis.length)(hj:j<((F.blk i).phi k).froms.length):0≤ith ((F.blk i).phi k).froms j∧ith ((F.blk i).phi k).froms j<F.blocks.length:=by
 have h1:=(Ybd (Yx hT) hi).1 _ (Ybo hk);unfold YI at h1;simp only[Bool.and_eq_true]at h1;have h2:=h1.2;unfold YcW at h2;exact YQ (List.all_eq_true.1 h2 _ (List.mem_of_getElem? (Ybz hj)))
theorem YmG{l m:List Int}(hn:l.Nodup)(hs:∀x∈l,x∈m):l.length≤m.length:=by
 induction l generalizing m with
 |nil=>simp
 |cons a l ih=>
  rw[List.nodup_cons]at hn;have h1:=ih (m:=m.erase a) hn.2 (fun x hx=>(List.mem_erase_of_ne (by rintro rfl;exact hn.1 hx)).2 (hs x (by simp[hx])));have hm:=hs a ZS;rw[List.length_erase_of_mem hm]at h1;have:=List.length_pos_of_mem hm;rw[List.length_cons];omega
theorem YcE{F:PFunc}{b x:Nat}:∀{i:Nat},x∈Yq F b i↔x<i∧leads (F.blk x).term (b:Int)=true
 |0=>by simp[Yq]
 |i+1=>by
  rw[Yq];split
  · rename_i h
    rw[List.mem_append,List.mem_singleton,YcE];constructor
    · rintro(⟨h1,h2⟩|rfl)
      · exact⟨ZO,h2⟩
      · exact⟨ZO,h⟩
    · rintro⟨h1,h2⟩
      by_cases e:x=i
      · exact .inr e
      · exact .inl ⟨ZO,h2⟩
  · rename_i h
    rw[YcE];constructor
    · rintro⟨h1,h2⟩;exact⟨ZO,h2⟩
    · rintro⟨h1,h2⟩
      refine⟨?_,h2⟩
      by_cases e:x=i
      · subst e;exact absurd h2 h
      · exact ZO
theorem Yf2{F:PFunc}{b:Nat}:∀(i:Nat),(Yq F b i).Pairwise (·<·)
 |0=>by simp[Yq]
 |i+1=>by
  rw[Yq];split
  · rw[List.pairwise_append]
    refine⟨Yf2 i,List.pairwise_singleton _ _,fun x hx y hy=>?_⟩;rw[List.mem_singleton]at hy;subst hy;exact(YcE.1 hx).1
  · exact Yf2 i
theorem YmH{l:List Nat}(h:l.Pairwise (·<·)):(Yf l).Pairwise (·<·):=by
 unfold Yf;rw[List.pairwise_map];exact h.imp fun h=>by simpa using h
theorem YmI{xs ys:List Int}(hy:ys.Pairwise (·<·)):Ya0 xs=ys↔xs.Perm ys:=by
 constructor
 · intro h
   rw[← h];exact(List.mergeSort_perm xs _).symm
 · intro h
   have hs:(Ya0 xs).Pairwise fun a b=>decide (a≤b)=true:=List.pairwise_mergeSort (le:=fun x y:Int=>decide (x≤y)) (fun a b c h1 h2=>by simp at *;omega) (fun a b=>ZX) xs
   refine List.Perm.eq_of_pairwise (le:=fun a b=>decide (a≤b)=true) (fun a b _ _ h1 h2=>by simp at h1 h2;omega) hs (hy.imp fun h=>ZX) ((List.mergeSort_perm xs _).trans h)
theorem YhU{fs:List Int}:fs.Nodup↔∀k,k<fs.length→∀j,j<k→ith fs j≠ith fs k:=by
 rw[List.nodup_iff_pairwise_ne,List.pairwise_iff_getElem];constructor
 · intro h k hk j hj
   have:=h j k ZO hk hj;simpa[ith,List.getD,hk,(by omega:j<fs.length)]using this
 · intro h i j hi hj hij
   have:=h j hj i hij;simpa[ith,List.getD,hi,hj]using this
theorem YmJ{F:PFunc}(hT:Yd F=true){i:Nat}(hi:i<F.blocks.length){p:PPhi}(hb:∀k,k<p.froms.length→0≤ith p.froms k∧ith p.froms k<F.blocks.length):Ybv F i p=phiOk F i p:=by
 have hrow:(YaO F).getD i []=Yf (Yq F i F.blocks.length):=Yes hT hi _ (Nr _);have hp:=YmH (Yf2 (F:=F) (b:=i) F.blocks.length);have hnd:(Yf (Yq F i F.blocks.length)).Nodup:=hp.imp fun h=>by omega
 have hmem:∀x:Int,x∈Yf (Yq F i F.blocks.length)↔0≤x∧x<F.blocks.length∧leads (F.blk x.toNat).term (i:Int)=true:=fun x=>by
  unfold Yf;rw[List.mem_map];constructor
  · rintro⟨a,ha,rfl⟩
    have:=YcE.1 ha;exact⟨ZS,ZX,by simpa using this.2⟩
  · rintro⟨h0,h1,h2⟩
    exact⟨x.toNat,YcE.2 ⟨ZO,h2⟩,ZX⟩
 rw[Bool.eq_iff_iff,Ybv,decide_eq_true_iff,hrow,YmI hp];constructor
 · intro h
   have hl:=h.length_eq;have hn:=(h.nodup_iff).2 hnd;refine YhS (by rw[hl];simp[Yf]) fun k hk=>YhT ?_ fun j hj=>YhU.1 hn k hk j hj
   have:=(h.mem_iff).1 (List.mem_of_getElem? (Ybz hk));exact((hmem _).1 this).2.2
 · intro h
   unfold phiOk at h;rw[Bool.and_eq_true,List.all_eq_true]at h;have hl:(Yf (Yq F i F.blocks.length)).length=p.froms.length:=by simpa[Yf]using h.1
   have hk:∀k,k<p.froms.length→leads (F.blk (ith p.froms k).toNat).term (i:Int)=true∧∀j,j<k→ith p.froms j≠ith p.froms k:=fun k hk=>by
    have:=h.2 k (by simpa using hk);unfold YbG at this;rw[Bool.and_eq_true,List.all_eq_true]at this;exact⟨this.1,fun j hj=>by simpa using this.2 j (by simpa using hj)⟩
   have hn:p.froms.Nodup:=YhU.2 fun k h j hj=>(hk k h).2 j hj
   have hsub:∀x∈p.froms,x∈Yf (Yq F i F.blocks.length):=fun x hx=>by
    obtain⟨k,h1,rfl⟩:=List.getElem_of_mem hx;have he:ith p.froms k=p.froms[k]:=by simp[ith,List.getD,h1]
    have b:=hb k h1;have l:=(hk k h1).1;rw[he]at b l;exact(hmem _).2 ⟨b.1,b.2,l⟩
   refine(List.perm_ext_iff_of_nodup hn hnd).2 fun y=>⟨hsub y,fun hy=>?_⟩
   refine Classical.byContradiction fun hny=>?_
   have:=YmG (l:=y::p.froms) (m:=Yf (Yq F i F.blocks.length)) (List.nodup_cons.2 ⟨hny,hn⟩) (fun x hx=>by
    rcases List.mem_cons.1 hx with rfl|h
    · exact hy
    · exact hsub x h)
   rw[List.length_cons]at this;omega
theorem YmK{F:PFunc}(hT:Yd F=true):Yai F=Ybw F:=by
 have h:∀i,i<F.blocks.length→∀p∈(F.blk i).phis,Ybv F i p=phiOk F i p:=fun i hi p hp=>by
  obtain⟨k,hk,rfl⟩:=List.getElem_of_mem hp;have e:(F.blk i).phi k=(F.blk i).phis[k]:=by rw[PBlock.phi,YL hk]
  refine YmJ hT hi fun j hj=>?_
  rw[← e];exact YdQ hT hi hk (by rw[e];exact hj)
 unfold Yai Ybw;rw[Bool.eq_iff_iff,List.all_eq_true,List.all_eq_true];constructor
 · intro hh i hi
   have:=hh i hi;rw[List.all_eq_true]at this ⊢;intro p hp;rw[← h i (by simpa using hi) p hp];exact this p hp
 · intro hh i hi
   have:=hh i hi;rw[List.all_eq_true]at this ⊢;intro p hp;rw[h i (by simpa using hi) p hp];exact this p hp
theorem YiJ{W w:World}{fv:Value}{F:PFunc}(hU:Uni W)(hF:FnV W W.heap.size fv F)(hW:Below W.heap.size W w)(hS:YU F)(hT:Yd F=true)(hB:Bnd F) :
 Calls Tryz.prog 111 #[fv] w fun e w'=>e=.returned (.int .i64 (YX (Yai F)))∧Below w.heap.size w w':=by
 have hr:=fun(w:World) (h:Below W.heap.size W w)=>YbZ hU hF h hS
 have hj:=fun(w:World) (h:Below W.heap.size W w)=>Ymz hF h hT hB
 rw[hT]at hr;have hWs:=hW.size;obtain⟨A0,c0,A1,c1,A2,c2,rfl,-⟩:=id hF.open_;clear hT;obtain⟨J,hJ⟩:∃J,Yai F=J:=⟨_,rfl⟩;rw[hJ]at hj ⊢;clear hJ;cases J
 · replace hj:∀w,Below W.heap.size W w→Calls Tryz.prog 148 _ w _:=hj
   go_enter Tryz.func111,Tryz.ntmps111;go_wp2_with(first|(go_at_call 90;refine(hr _ BL).mono ?_;(rintro e w1 ⟨rfl,hb1⟩;obtain⟨hc1,hf1⟩:=Ya hb1;have hz1:=hb1.size;try simp at hz1;try have hy1:=Nl hz1;try have hx1:=Ns hy1;try have hw1:=Ns hx1))|(go_at_call 148;refine(hj _ BL).mono ?_;(rintro e w2 ⟨rfl,hb2⟩;obtain⟨hc2,hf2⟩:=Ya hb2;have hz2:=hb2.size;try simp at hz2;try have hy2:=Nl hz2;try have hx2:=Ns hy2;try have hw2:=Ns hx2)));go_ret;exact⟨rfl,BL⟩
 · go_enter Tryz.func111,Tryz.ntmps111
   go_wp2_with(first|(go_at_call 90;refine(hr _ BL).mono ?_;(rintro e w1 ⟨rfl,hb1⟩;obtain⟨hc1,hf1⟩:=Ya hb1;have hz1:=hb1.size;try simp at hz1;try have hy1:=Nl hz1;try have hx1:=Ns hy1;try have hw1:=Ns hx1))|(go_at_call 148;refine(hj _ BL).mono ?_;(rintro e w2 ⟨rfl,hb2⟩;obtain⟨hc2,hf2⟩:=Ya hb2;have hz2:=hb2.size;try simp at hz2;try have hy2:=Nl hz2;try have hx2:=Ns hy2;try have hw2:=Ns hx2)));go_ret;exact⟨rfl,BL⟩
theorem YiK{W w:World}{fv:Value}{F:PFunc}(hU:Uni W)(hF:FnV W W.heap.size fv F)(hW:Below W.heap.size W w)(hS:YU F)(hT:Yd F=false) :
 Calls Tryz.prog 111 #[fv] w fun e w'=>e=.returned (.int .i64 3)∧Below w.heap.size w w':=by
 have hr:=fun(w:World) (h:Below W.heap.size W w)=>YbZ hU hF h hS
 rw[hT]at hr;have hWs:=hW.size;obtain⟨A0,c0,A1,c1,A2,c2,rfl,-⟩:=id hF.open_;clear hT;go_enter Tryz.func111,Tryz.ntmps111;go_wp2_with(go_at_call 90;refine(hr _ BL).mono ?_;(rintro e w1 ⟨rfl,hb1⟩;obtain⟨hc1,hf1⟩:=Ya hb1;have hz1:=hb1.size;try simp at hz1;try have hy1:=Nl hz1;try have hx1:=Ns hy1;try have hw1:=Ns hx1));go_ret;exact⟨rfl,BL⟩
def YdU(F:PFunc):Bool:=Yd F&&Yai F
theorem YqW{W w:World}{fv:Value}{F:PFunc}(hU:Uni W)(hF:FnV W W.heap.size fv F)(hW:Below W.heap.size W w)(hS:YU F)(hB:Bnd F) :
 Calls Tryz.prog 111 #[fv] w fun e w'=>e=.returned (.int .i64 (YX (YdU F)))∧Below w.heap.size w w':=by
 cases hT:Yd F
 · have:=YiK hU hF hW hS hT
   rw[show YdU F=false by rw[YdU,hT];rfl];exact this
 · have:=YiJ hU hF hW hS hT hB
   rw[show YdU F=Yai F by rw[YdU,hT];rfl];exact this
def Ybx(F:PFunc)(i a:Nat):Nat:=(Yq F i a).length
theorem Yn3{F:PFunc}{i a:Nat}(h:leads (F.blk a).term (i:Int)=true):Ybx F i (a+1)=Ybx F i a+1:=by
 unfold Ybx;rw[Yq,if_pos h];simp
theorem Yn4{F:PFunc}{i a:Nat}(h:leads (F.blk a).term (i:Int)=false):Ybx F i (a+1)=Ybx F i a:=by
 unfold Ybx;rw[Yq,if_neg (by simp[h])]
theorem YiL{F:PFunc}{i:Nat}(a:Nat):Ybx F i a≤a:=YfX a
set_option maxHeartbeats 16000000 in
theorem Yn5{W w:World}{fv:Value}{F:PFunc}(hF:FnV W W.heap.size fv F)(hW:Below W.heap.size W w)(hT:Yd F=true) :
 Calls Tryz.prog 118 #[fv] w fun e w'=>e=.returned (.bool (Ybw F))∧Below w.heap.size w w':=by
 have hld:=Lh (fun(w':World) (h:Below W.heap.size W w') (a b:Nat) (ha:a<F.blocks.length)=>Ye2 hF h (a:Int) (b:Int) ZO ZO);have hlf:=Lh (fun(w':World) (h:Below W.heap.size W w') (a:Int) (b:Nat) (h0:0≤a) (h1:a<F.blocks.length)=>Ye2 hF h a (b:Int) h0 h1);have hfr:=Lh (fun i (hi:i<F.blocks.length) k (hk:k<(F.blk i).phis.length) j (hj:j<((F.blk i).phi k).froms.length)=>YdQ hT hi hk hj);have hjn:=Lh (fun i k (hi:i<F.blocks.length) (hk:k<(F.blk i).phis.length) (h:phiOk F i ((F.blk i).phi k)=false)=>YmA hi hk h);have hjy:=Lh (fun h=>YmB (F:=F) h);obtain⟨n1,n2⟩:=Y1 (Yx hT);clear hT;have hWs:=hW.size;obtain⟨A0,c0,A1,c1,A2,c2,rfl,l0,l1,l2,-,-,-,r0,r1,r2⟩:=id hF.open_;unfold Len at *;have hb0:=(Br w.heap.size w).alloc (Nr _) (.cells #[.slice A0 F.vars.length c0,.slice A1 F.params.length c1,.slice A2 F.blocks.length c2] 26);generalize Ybw F=J at *;go_enter Tryz.func118,Tryz.ntmps118;go_wp2
 go_loopw[15] (fun i wr=>∃n:Nat,i=.int .i64 n∧n≤F.blocks.length∧Hid (∀m,m<n→∀k,k<(F.blk m).phis.length→phiOk F m ((F.blk m).phi k)=true)∧Below (w.heap.size+1) (w.alloc (.cells #[.slice A0 F.vars.length c0,.slice A1 F.params.length c1,.slice A2 F.blocks.length c2] 26)) wr) (fun i _=>F.blocks.length-(intOf i).toNat)
 case atStart=>exact⟨0,rfl,Nz _,fun m hm=>absurd hm (Nat.not_lt_zero _),BL⟩
 case round=>as_aux_lemma=>
  obtain⟨n,rfl,hn,HA,hb⟩:=hrel;have hB:=hb0.trans (hb.mono (Nat.le_succ _));have hWr:Below W.heap.size W wr:=hW.trans (hB.mono hWs)
  by_cases hlt:n<F.blocks.length
  · obtain⟨bb,off,A3,c3,A4,c4,rfl,hbb,hnz,hy0,hy1,hy2,hy3,hy4,hy5,hy6,l3,l4,k3,k4,r3,r4⟩:=r2.blk hWr hlt
    unfold Len at l3 l4;obtain⟨wq,rfl⟩:∃wq:World,wq=wr:=⟨_,rfl⟩;go_wp2
    go_loopw[23] (fun i wr=>∃k:Nat,i=.int .i64 k∧k≤(F.blk n).phis.length∧Hid (∀j,j<k→phiOk F n ((F.blk n).phi j)=true)∧Below wq.heap.size wq wr) (fun i _=>(F.blk n).phis.length-(intOf i).toNat)
    case atStart=>exact⟨0,rfl,Nz _,fun m hm=>absurd hm (Nat.not_lt_zero _),BL⟩
    case round=>as_aux_lemma=>
     obtain⟨k,rfl,hk,HK,hbi⟩:=hrel;have hBr:Below w.heap.size w wr:=hB.trans (hbi.mono hB.size);have hbr:=hb.trans (hbi.mono (by have:=hb.size;simp at this;omega));have hWi:Below W.heap.size W wr:=hW.trans (hBr.mono hWs)
     by_cases hkl:k<(F.blk n).phis.length
     · obtain⟨bp,op,A6,c6,A7,c7,rfl,hbp,hp0,hp1,hp2,l6,l7,k6,k7,-,r7⟩:=r3.phi hWi hkl
       unfold Len at l6 l7;have hff:=Lh (hfr.out n hlt k hkl);have hjf:=Lh (fun h=>hjn.out n k hlt hkl h);have hcn:=Lh (fun h=>YmC (F:=F) (i:=n) (p:=(F.blk n).phi k) h);have hfn:=Lh (fun k' hk' h=>YmD (F:=F) (i:=n) (k:=k') (p:=(F.blk n).phi k) hk' h);have hpy:=Lh (fun hc h=>YhS (F:=F) (i:=n) (p:=(F.blk n).phi k) hc h);clear hy0 hy1 hy2 hy3 hy4 hy5 hy6 hnz hjn hfr hjy;obtain⟨ph,hph⟩:∃ph,ph=(F.blk n).phi k:=⟨_,rfl⟩;rw[← hph]at hp0 hp1 hp2 l6 l7 k6 k7 r7 hff hjf hcn hfn hpy;have HP:=Lh hph;clear hph;obtain⟨p0,-,-,p1⟩:=Yn hbr;obtain⟨wv,rfl⟩:∃wv:World,wv=wr:=⟨_,rfl⟩;go_wp2
       go_loopw[7,30] (fun m i wr=>∃a:Nat,m=.int .i64 (Ybx F n a:Int)∧i=.int .i64 a∧a≤F.blocks.length∧Below (wv.heap.size+1) (wv.alloc (.cells #[.int .i64 ph.dst,.slice A6 ph.args.length c6,.slice A7 ph.froms.length c7] 76)) wr) (fun _ i _=>F.blocks.length-(intOf i).toNat)
       case atStart=>exact⟨0,rfl,rfl,Nz _,Br _ _⟩
       case round=>as_aux_lemma=>
        clear p0 p1;obtain⟨a,rfl,rfl,ha,hbx⟩:=hrel;have hb1:Below wv.heap.size wv wr:=((Br _ _).alloc (Nr _) _).trans (hbx.mono (Nat.le_succ _));have hBr1:Below w.heap.size w wr:=hBr.trans (hb1.mono hBr.size);have hWi1:Below W.heap.size W wr:=hW.trans (hBr1.mono hWs);have hbr1:=hbr.trans (hb1.mono (by have:=hbr.size;simpa using this));obtain⟨q,q0,q1,q2⟩:=Yn hbr1;obtain⟨z,z0,z1,z2⟩:=Yn hbx
        by_cases hal:a<F.blocks.length
        · have fa:(a:Int)<(F.blocks.length:Int):=by omega
          have hl:=hld.out wr hWi1 a n hal;rw[Int.toNat_natCast]at hl;have hcl:=YiL (F:=F) (i:=n) a;obtain⟨d,hd⟩:∃d,leads (F.blk a).term (n:Int)=d:=⟨_,rfl⟩;rw[hd]at hl;cases d
          · have HC:=Lh (Yn4 hd)
            clear hd;go_wp2_with fail;refine hl.mono ?_;rintro e w5 ⟨rfl,hb5⟩;go_wp2;go_roundw
            case rel=>exact⟨a+1,by rw[HC.out],ZN,ZO,hbx.trans (hb5.mono (by have:=hbx.size;simpa using this))⟩
            case measure=>simp[intOf];omega
          · have HC:=Lh (Yn3 hd)
            clear hd;go_wp2_with fail;refine hl.mono ?_;rintro e w5 ⟨rfl,hb5⟩;go_wp2;go_roundw
            case rel=>exact⟨a+1,by rw[HC.out];go_num,ZN,ZO,hbx.trans (hb5.mono (by have:=hbx.size;simpa using this))⟩
            case measure=>simp[intOf];omega
        · obtain rfl:a=F.blocks.length:=by omega
          have HCE:=Lh (show Ybx F n F.blocks.length=(Yq F n F.blocks.length).length from rfl);have hcl:=YiL (F:=F) (i:=n) F.blocks.length
          by_cases hc:Ybx F n F.blocks.length=ph.froms.length
          · have hc':((Ybx F n F.blocks.length:Int) !=(ph.froms.length:Int))=false:=by simp[hc]
            have HCC:=Lh hc;clear hc;obtain⟨wx,rfl⟩:∃wx:World,wx=wr:=⟨_,rfl⟩;go_wp2
            go_loopw[48] (fun i wr=>∃m:Nat,i=.int .i64 m∧m≤ph.froms.length∧Hid (∀j,j<m→YbG F n ph.froms j=true)∧Below wx.heap.size wx wr) (fun i _=>ph.froms.length-(intOf i).toNat)
            case atStart=>exact⟨0,rfl,Nz _,fun m hm=>absurd hm (Nat.not_lt_zero _),Br _ _⟩
            case round=>as_aux_lemma=>
             clear q0 q1 q2 z0 z1 z2 q z;obtain⟨m,rfl,hm,HM,hb2⟩:=hrel;have hbx2:=hbx.trans (hb2.mono (by have:=hbx.size;simpa using this));have hBr2:Below w.heap.size w wr:=hBr1.trans (hb2.mono hBr1.size);have hWi2:Below W.heap.size W wr:=hW.trans (hBr2.mono hWs);have hbr2:=hbr1.trans (hb2.mono (by have:=hbr1.size;simpa using this));obtain⟨q,q0,q1,q2⟩:=Yn hbr2;obtain⟨z,z0,z1,z2⟩:=Yn hbx2
             by_cases hml:m<ph.froms.length
             · obtain⟨hf0,hf1⟩:=hff.out m hml
               have hl:=hlf.out wr hWi2 (ith ph.froms m) n hf0 hf1;have r7i:=fun(w':World) (h:Below W.heap.size W w') (j:Nat) (hj:j<ph.froms.length)=>r7.int h hj
               obtain⟨b8,o8,rfl,hb8,hc8⟩:=r7.int hWi2 hml;have HTW:=Lh (fun j (hj:j<m) (h:ith ph.froms j=ith ph.froms m)=>hfn.out m hml (YmF hj h));have HNL:=Lh (fun(h:leads (F.blk (ith ph.froms m).toNat).term (n:Int)=false)=>hfn.out m hml (YmE h));have HYS:=Lh (fun hl h=>YhT (F:=F) (i:=n) (k:=m) (fs:=ph.froms) hl h);obtain⟨d,hd⟩:∃d,leads (F.blk (ith ph.froms m).toNat).term (n:Int)=d:=⟨_,rfl⟩;rw[hd]at hl;have HD:=Lh hd;clear hd;have R7:=Lh r7i;clear r7i;generalize hff0:ith ph.froms m=fm at *;have HFM:=Lh hff0;clear hff0;cases d
               · have HF:=Lh (hjf.out (HNL.out HD.out))
                 go_wp2_with fail;refine hl.mono ?_;rintro e w5 ⟨rfl,hb5⟩;go_wp2;go_ret;exact⟨Yb HF.out.symm,hBr2.trans (hb5.mono hBr2.size)⟩
               · go_wp2_with fail
                 refine hl.mono ?_;rintro e w5 ⟨rfl,hb5⟩;go_wp2;clear q0 q1 q2 z0 z1 z2;have hbx5:=hbx2.trans (hb5.mono (by have:=hbx2.size;simpa using this));have hB5:Below wx.heap.size wx w5:=hb2.trans (hb5.mono hb2.size);obtain⟨y,y0,y1,y2⟩:=Yn hbx5
                 go_loopw[59] (fun i wr=>∃j:Nat,i=.int .i64 j∧j≤m∧Hid (∀t,t<j→ith ph.froms t≠fm)∧wr=w5) (fun i _=>m-(intOf i).toNat)
                 case atStart=>exact⟨0,rfl,Nz _,fun t ht=>absurd ht (Nat.not_lt_zero _),rfl⟩
                 case round=>as_aux_lemma=>
                  obtain⟨j,rfl,hj,HJ,rfl⟩:=hrel
                  by_cases hjl:j<m
                  · have hjm:(j:Int)<(m:Int):=by omega
                    obtain⟨b9,o9,he9,hb9,hc9⟩:=R7.out wr (hWi2.trans (hb5.mono hWi2.size)) j ZO;simp only[Option.some.injEq,Addr.mk.injEq,and_true]at he9;obtain⟨rfl,rfl⟩:=he9;have hjf':j<ph.froms.length:=by omega
                    by_cases he:ith ph.froms j=fm
                    · have HF:=Lh (hjf.out (HTW.out j hjl he))
                      have he':(ith ph.froms j==fm)=true:=by simp[he]
                      clear he;go_wp2;go_ret;exact⟨Yb HF.out.symm,hBr2.trans (hb5.mono hBr2.size)⟩
                    · have he':(ith ph.froms j==fm)=false:=by simp[he]
                      have HE:=Lh he;clear he;go_wp2;go_roundw
                      case rel=>exact⟨j+1,ZN,ZO,fun t ht=>if h:t<j then HJ.out t h else by
                       obtain rfl:t=j:=by omega
                       exact HE.out,trivial⟩
                      case measure=>simp[intOf];omega
                  · obtain rfl:j=m:=by omega
                    have hjm:¬(j:Int)<(j:Int):=by omega
                    go_wp2;go_roundw
                    case rel=>exact⟨j+1,ZN,ZO,fun t ht=>if h:t<j then HM.out t h else by
                     obtain rfl:t=j:=by omega
                     exact HYS.out HD.out HJ.out,hB5⟩
                    case measure=>simp[intOf];omega
             · obtain rfl:m=ph.froms.length:=by omega
               have HOK:=Lh (hpy.out (by rw[← HCE.out];exact HCC.out) HM.out);go_wp2;go_roundw
               case rel=>exact⟨k+1,ZN,ZO,fun j hj=>if h:j<k then HK.out j h else by
                obtain rfl:j=k:=by omega
                rw[← HP.out];exact HOK.out,hbi.trans ((hb1.trans (hb2.mono hb1.size)).mono hbi.size)⟩
               case measure=>simp[intOf];omega
          · have hc':((Ybx F n F.blocks.length:Int) !=(ph.froms.length:Int))=true:=by rw[bne_iff_ne];omega
            have HF:=Lh (hjf.out (hcn.out hc));clear hc;go_wp2;go_ret;exact⟨Yb HF.out.symm,hBr1⟩
     · obtain rfl:k=(F.blk n).phis.length:=by omega
       go_wp2;go_roundw
       case rel=>exact⟨n+1,ZN,ZO,fun m hm j hj=>if h:m<n then HA.out m h j hj else by
        obtain rfl:m=n:=by omega
        exact HK.out j hj,hbr⟩
       case measure=>simp[intOf];omega
  · obtain rfl:n=F.blocks.length:=by omega
    have HF:=Lh (hjy.out fun i hi k hk=>HA.out i hi k hk);go_wp2;go_ret;exact⟨Yb HF.out.symm,hB⟩
end Go.Proofs.YtjlclkcmfokobaaGreatDoor
