/- ref10.Joined of a typed program. -/
import Derived.Test.YtlhhfcleioikoaaGreatDoorJoinP
import Derived.Test.YtlhhfcleioikoaaGreatDoorZed
namespace Go.Proofs.YtlhhfcleioikoaaGreatDoor
open Go.RowKit
set_option maxRecDepth 100000
def cntP(F:PFunc)(i a:Nat):Nat:=(predRow F i a).length
theorem cntP_yes{F:PFunc}{i a:Nat}(h:leads (F.blk a).term (i:Int)=true):cntP F i (a+1)=cntP F i a+1:=by
 unfold cntP;rw[predRow,if_pos h];simp
theorem cntP_no{F:PFunc}{i a:Nat}(h:leads (F.blk a).term (i:Int)=false):cntP F i (a+1)=cntP F i a:=by
 unfold cntP;rw[predRow,if_neg (by simp[h])]
theorem cntP_le{F:PFunc}{i:Nat}(a:Nat):cntP F i a≤a:=predRow_le a
set_option maxHeartbeats 16000000 in
theorem refJoined_calls{W w:World}{fv:Value}{F:PFunc}(hF:FnV W W.heap.size fv F)(hW:Below W.heap.size W w)(hT:typedP F=true) :
 Calls Tryz.prog 108 #[fv] w fun e w'=>e=.returned (.bool (refJoinB F))∧Below w.heap.size w w':=by
 have hld:=Lib.hid (fun(w':World) (h:Below W.heap.size W w') (a b:Nat) (ha:a<F.blocks.length)=>leads_calls hF h (a:Int) (b:Int) ZO ZO);have hlf:=Lib.hid (fun(w':World) (h:Below W.heap.size W w') (a:Int) (b:Nat) (h0:0≤a) (h1:a<F.blocks.length)=>leads_calls hF h a (b:Int) h0 h1);have hfr:=Lib.hid (fun i (hi:i<F.blocks.length) k (hk:k<(F.blk i).phis.length) j (hj:j<((F.blk i).phi k).froms.length)=>typed_from hT hi hk hj);have hjn:=Lib.hid (fun i k (hi:i<F.blocks.length) (hk:k<(F.blk i).phis.length) (h:phiOk F i ((F.blk i).phi k)=false)=>refj_no hi hk h);have hjy:=Lib.hid (fun h=>refj_yes (F:=F) h);obtain⟨n1,n2⟩:=shaped_count (typed_shaped hT);clear hT;have hWs:=hW.size;obtain⟨A0,c0,A1,c1,A2,c2,rfl,l0,l1,l2,-,-,-,r0,r1,r2⟩:=id hF.open_;unfold Len at *;have hb0:=(Below.refl w.heap.size w).alloc (Nat.le_refl _) (.cells #[.slice A0 F.vars.length c0,.slice A1 F.params.length c1,.slice A2 F.blocks.length c2] 26);generalize refJoinB F=J at *;go_enter Tryz.func108,Tryz.ntmps108;go_wp2
 go_loopw[15] (fun i wr=>∃n:Nat,i=.int .i64 n∧n≤F.blocks.length∧Hid (∀m,m<n→∀k,k<(F.blk m).phis.length→phiOk F m ((F.blk m).phi k)=true)∧Below (w.heap.size+1) (w.alloc (.cells #[.slice A0 F.vars.length c0,.slice A1 F.params.length c1,.slice A2 F.blocks.length c2] 26)) wr) (fun i _=>F.blocks.length-(intOf i).toNat)
 case atStart=>exact⟨0,rfl,Nat.zero_le _,fun m hm=>absurd hm (Nat.not_lt_zero _),BL⟩
 case round=>as_aux_lemma=>
  obtain⟨n,rfl,hn,HA,hb⟩:=hrel;have hB:=hb0.trans (hb.mono (Nat.le_succ _));have hWr:Below W.heap.size W wr:=hW.trans (hB.mono hWs)
  by_cases hlt:n<F.blocks.length
  · obtain⟨bb,off,A3,c3,A4,c4,rfl,hbb,hnz,hy0,hy1,hy2,hy3,hy4,hy5,hy6,l3,l4,k3,k4,r3,r4⟩:=r2.blk hWr hlt
    unfold Len at l3 l4;obtain⟨wq,rfl⟩:∃wq:World,wq=wr:=⟨_,rfl⟩;go_wp2
    go_loopw[23] (fun i wr=>∃k:Nat,i=.int .i64 k∧k≤(F.blk n).phis.length∧Hid (∀j,j<k→phiOk F n ((F.blk n).phi j)=true)∧Below wq.heap.size wq wr) (fun i _=>(F.blk n).phis.length-(intOf i).toNat)
    case atStart=>exact⟨0,rfl,Nat.zero_le _,fun m hm=>absurd hm (Nat.not_lt_zero _),BL⟩
    case round=>as_aux_lemma=>
     obtain⟨k,rfl,hk,HK,hbi⟩:=hrel;have hBr:Below w.heap.size w wr:=hB.trans (hbi.mono hB.size);have hbr:=hb.trans (hbi.mono (by have:=hb.size;simp at this;omega));have hWi:Below W.heap.size W wr:=hW.trans (hBr.mono hWs)
     by_cases hkl:k<(F.blk n).phis.length
     · obtain⟨bp,op,A6,c6,A7,c7,rfl,hbp,hp0,hp1,hp2,l6,l7,k6,k7,-,r7⟩:=r3.phi hWi hkl
       unfold Len at l6 l7;have hff:=Lib.hid (hfr.out n hlt k hkl);have hjf:=Lib.hid (fun h=>hjn.out n k hlt hkl h);have hcn:=Lib.hid (fun h=>phiOk_count (F:=F) (i:=n) (p:=(F.blk n).phi k) h);have hfn:=Lib.hid (fun k' hk' h=>phiOk_from (F:=F) (i:=n) (k:=k') (p:=(F.blk n).phi k) hk' h);have hpy:=Lib.hid (fun hc h=>phiOk_yes (F:=F) (i:=n) (p:=(F.blk n).phi k) hc h);clear hy0 hy1 hy2 hy3 hy4 hy5 hy6 hnz hjn hfr hjy;obtain⟨ph,hph⟩:∃ph,ph=(F.blk n).phi k:=⟨_,rfl⟩;rw[← hph]at hp0 hp1 hp2 l6 l7 k6 k7 r7 hff hjf hcn hfn hpy;have HP:=Lib.hid hph;clear hph;obtain⟨p0,-,-,p1⟩:=box3 hbr;obtain⟨wv,rfl⟩:∃wv:World,wv=wr:=⟨_,rfl⟩;go_wp2
       go_loopw[7,30] (fun m i wr=>∃a:Nat,m=.int .i64 (cntP F n a:Int)∧i=.int .i64 a∧a≤F.blocks.length∧Below (wv.heap.size+1) (wv.alloc (.cells #[.int .i64 ph.dst,.slice A6 ph.args.length c6,.slice A7 ph.froms.length c7] 66)) wr) (fun _ i _=>F.blocks.length-(intOf i).toNat)
       case atStart=>exact⟨0,rfl,rfl,Nat.zero_le _,Below.refl _ _⟩
       case round=>as_aux_lemma=>
        clear p0 p1;obtain⟨a,rfl,rfl,ha,hbx⟩:=hrel;have hb1:Below wv.heap.size wv wr:=((Below.refl _ _).alloc (Nat.le_refl _) _).trans (hbx.mono (Nat.le_succ _));have hBr1:Below w.heap.size w wr:=hBr.trans (hb1.mono hBr.size);have hWi1:Below W.heap.size W wr:=hW.trans (hBr1.mono hWs);have hbr1:=hbr.trans (hb1.mono (by have:=hbr.size;simpa using this));obtain⟨q,q0,q1,q2⟩:=box3 hbr1;obtain⟨z,z0,z1,z2⟩:=box3 hbx
        by_cases hal:a<F.blocks.length
        · have fa:(a:Int)<(F.blocks.length:Int):=by omega
          have hl:=hld.out wr hWi1 a n hal;rw[Int.toNat_natCast]at hl;have hcl:=cntP_le (F:=F) (i:=n) a;obtain⟨d,hd⟩:∃d,leads (F.blk a).term (n:Int)=d:=⟨_,rfl⟩;rw[hd]at hl;cases d
          · have HC:=Lib.hid (cntP_no hd)
            clear hd;go_wp2_with fail;refine hl.mono ?_;rintro e w5 ⟨rfl,hb5⟩;go_wp2;go_roundw
            case rel=>exact⟨a+1,by rw[HC.out],ZN,ZO,hbx.trans (hb5.mono (by have:=hbx.size;simpa using this))⟩
            case measure=>simp[intOf];omega
          · have HC:=Lib.hid (cntP_yes hd)
            clear hd;go_wp2_with fail;refine hl.mono ?_;rintro e w5 ⟨rfl,hb5⟩;go_wp2;go_roundw
            case rel=>exact⟨a+1,by rw[HC.out];go_num,ZN,ZO,hbx.trans (hb5.mono (by have:=hbx.size;simpa using this))⟩
            case measure=>simp[intOf];omega
        · obtain rfl:a=F.blocks.length:=by omega
          have HCE:=Lib.hid (show cntP F n F.blocks.length=(predRow F n F.blocks.length).length from rfl);have hcl:=cntP_le (F:=F) (i:=n) F.blocks.length
          by_cases hc:cntP F n F.blocks.length=ph.froms.length
          · have hc':((cntP F n F.blocks.length:Int) !=(ph.froms.length:Int))=false:=by simp[hc]
            have HCC:=Lib.hid hc;clear hc;obtain⟨wx,rfl⟩:∃wx:World,wx=wr:=⟨_,rfl⟩;go_wp2
            go_loopw[48] (fun i wr=>∃m:Nat,i=.int .i64 m∧m≤ph.froms.length∧Hid (∀j,j<m→fromOk F n ph.froms j=true)∧Below wx.heap.size wx wr) (fun i _=>ph.froms.length-(intOf i).toNat)
            case atStart=>exact⟨0,rfl,Nat.zero_le _,fun m hm=>absurd hm (Nat.not_lt_zero _),Below.refl _ _⟩
            case round=>as_aux_lemma=>
             clear q0 q1 q2 z0 z1 z2 q z;obtain⟨m,rfl,hm,HM,hb2⟩:=hrel;have hbx2:=hbx.trans (hb2.mono (by have:=hbx.size;simpa using this));have hBr2:Below w.heap.size w wr:=hBr1.trans (hb2.mono hBr1.size);have hWi2:Below W.heap.size W wr:=hW.trans (hBr2.mono hWs);have hbr2:=hbr1.trans (hb2.mono (by have:=hbr1.size;simpa using this));obtain⟨q,q0,q1,q2⟩:=box3 hbr2;obtain⟨z,z0,z1,z2⟩:=box3 hbx2
             by_cases hml:m<ph.froms.length
             · obtain⟨hf0,hf1⟩:=hff.out m hml
               have hl:=hlf.out wr hWi2 (ith ph.froms m) n hf0 hf1;have r7i:=fun(w':World) (h:Below W.heap.size W w') (j:Nat) (hj:j<ph.froms.length)=>r7.int h hj
               obtain⟨b8,o8,rfl,hb8,hc8⟩:=r7.int hWi2 hml;have HTW:=Lib.hid (fun j (hj:j<m) (h:ith ph.froms j=ith ph.froms m)=>hfn.out m hml (fromOk_twin hj h));have HNL:=Lib.hid (fun(h:leads (F.blk (ith ph.froms m).toNat).term (n:Int)=false)=>hfn.out m hml (fromOk_leads h));have HYS:=Lib.hid (fun hl h=>fromOk_yes (F:=F) (i:=n) (k:=m) (fs:=ph.froms) hl h);obtain⟨d,hd⟩:∃d,leads (F.blk (ith ph.froms m).toNat).term (n:Int)=d:=⟨_,rfl⟩;rw[hd]at hl;have HD:=Lib.hid hd;clear hd;have R7:=Lib.hid r7i;clear r7i;generalize hff0:ith ph.froms m=fm at *;have HFM:=Lib.hid hff0;clear hff0;cases d
               · have HF:=Lib.hid (hjf.out (HNL.out HD.out))
                 go_wp2_with fail;refine hl.mono ?_;rintro e w5 ⟨rfl,hb5⟩;go_wp2;go_ret;exact⟨ret_bool HF.out.symm,hBr2.trans (hb5.mono hBr2.size)⟩
               · go_wp2_with fail
                 refine hl.mono ?_;rintro e w5 ⟨rfl,hb5⟩;go_wp2;clear q0 q1 q2 z0 z1 z2;have hbx5:=hbx2.trans (hb5.mono (by have:=hbx2.size;simpa using this));have hB5:Below wx.heap.size wx w5:=hb2.trans (hb5.mono hb2.size);obtain⟨y,y0,y1,y2⟩:=box3 hbx5
                 go_loopw[59] (fun i wr=>∃j:Nat,i=.int .i64 j∧j≤m∧Hid (∀t,t<j→ith ph.froms t≠fm)∧wr=w5) (fun i _=>m-(intOf i).toNat)
                 case atStart=>exact⟨0,rfl,Nat.zero_le _,fun t ht=>absurd ht (Nat.not_lt_zero _),rfl⟩
                 case round=>as_aux_lemma=>
                  obtain⟨j,rfl,hj,HJ,rfl⟩:=hrel
                  by_cases hjl:j<m
                  · have hjm:(j:Int)<(m:Int):=by omega
                    obtain⟨b9,o9,he9,hb9,hc9⟩:=R7.out wr (hWi2.trans (hb5.mono hWi2.size)) j ZO;simp only[Option.some.injEq,Addr.mk.injEq,and_true]at he9;obtain⟨rfl,rfl⟩:=he9;have hjf':j<ph.froms.length:=by omega
                    by_cases he:ith ph.froms j=fm
                    · have HF:=Lib.hid (hjf.out (HTW.out j hjl he))
                      have he':(ith ph.froms j==fm)=true:=by simp[he]
                      clear he;go_wp2;go_ret;exact⟨ret_bool HF.out.symm,hBr2.trans (hb5.mono hBr2.size)⟩
                    · have he':(ith ph.froms j==fm)=false:=by simp[he]
                      have HE:=Lib.hid he;clear he;go_wp2;go_roundw
                      case rel=>exact⟨j+1,ZN,ZO,fun t ht=>if h:t<j then HJ.out t h else by
                       obtain rfl:t=j:=by omega
                       exact HE.out,trivial⟩
                      case measure=>simp[intOf];omega
                  · obtain rfl:j=m:=by omega
                    have hjm:¬(j:Int)<(j:Int):=by omega
                    go_wp2;go_roundw
                    case rel=>exact⟨j+1,ZN,ZO,fun t ht=>if h:t<j then HM.out t h else by
                     obtain rfl:t=j:=by omega
                     exact HYS.out HD.out HJ.out,hB5⟩
                    case measure=>simp[intOf];omega
             · obtain rfl:m=ph.froms.length:=by omega
               have HOK:=Lib.hid (hpy.out (by rw[← HCE.out];exact HCC.out) HM.out);go_wp2;go_roundw
               case rel=>exact⟨k+1,ZN,ZO,fun j hj=>if h:j<k then HK.out j h else by
                obtain rfl:j=k:=by omega
                rw[← HP.out];exact HOK.out,hbi.trans ((hb1.trans (hb2.mono hb1.size)).mono hbi.size)⟩
               case measure=>simp[intOf];omega
          · have hc':((cntP F n F.blocks.length:Int) !=(ph.froms.length:Int))=true:=by rw[bne_iff_ne];omega
            have HF:=Lib.hid (hjf.out (hcn.out hc));clear hc;go_wp2;go_ret;exact⟨ret_bool HF.out.symm,hBr1⟩
     · obtain rfl:k=(F.blk n).phis.length:=by omega
       go_wp2;go_roundw
       case rel=>exact⟨n+1,ZN,ZO,fun m hm j hj=>if h:m<n then HA.out m h j hj else by
        obtain rfl:m=n:=by omega
        exact HK.out j hj,hbr⟩
       case measure=>simp[intOf];omega
  · obtain rfl:n=F.blocks.length:=by omega
    have HF:=Lib.hid (hjy.out fun i hi k hk=>HA.out i hi k hk);go_wp2;go_ret;exact⟨ret_bool HF.out.symm,hB⟩
end Go.Proofs.YtlhhfcleioikoaaGreatDoor
