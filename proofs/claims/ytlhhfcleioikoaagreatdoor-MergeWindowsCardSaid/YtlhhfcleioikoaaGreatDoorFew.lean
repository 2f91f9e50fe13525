/- The walk of checkreinlaw04.Few. -/
import Derived.Test.YtlhhfcleioikoaaGreatDoorTyped
namespace Go.Proofs.YtlhhfcleioikoaaGreatDoor
open Go.RowKit
set_option maxRecDepth 100000
def phisFew:Nat→List PPhi→Bool
 |_,[]=>true
 |m,p::r=>decide (m≤4000)&&decide (p.args.length≤400)&&decide (p.froms.length≤400)&&phisFew (m+(p.args.length+p.froms.length)) r
def phisLen:List PPhi→Nat
 |[]=>0
 |p::r=>p.args.length+p.froms.length+phisLen r
def instsFew:Nat→List PInst→Bool
 |_,[]=>true
 |m,x::r=>decide (m≤4000)&&decide (x.args.length≤400)&&instsFew (m+x.args.length) r
def instsLen:List PInst→Nat
 |[]=>0
 |x::r=>x.args.length+instsLen r
def blkHead(b:PBlock):Nat:=b.name.size+10*(b.phis.length+b.insts.length)
def blkFew(m:Nat)(b:PBlock):Bool:=decide (b.name.size≤400)&&decide (b.phis.length≤400)&&decide (b.insts.length≤400)&&phisFew (m+blkHead b) b.phis&&
 instsFew (m+blkHead b+phisLen b.phis) b.insts&&decide (m+blkHead b+phisLen b.phis+instsLen b.insts≤4000)
def blksFew:Nat→List PBlock→Bool
 |_,[]=>true
 |m,b::r=>blkFew m b&&blksFew (m+blkHead b+phisLen b.phis+instsLen b.insts) r
def varFew(v:PVar):Bool:=decide (v.name.size≤400)
def varsLen:List PVar→Nat
 |[]=>0
 |v::r=>v.name.size+varsLen r
def fewB(F:PFunc):Bool:=decide (F.vars.length≤100)&&decide (F.blocks.length≤40)&&decide (F.params.length≤20)&&F.vars.all varFew&&blksFew (varsLen F.vars) F.blocks
theorem blksFew_each:∀{l:List PBlock} {m:Nat},blksFew m l=true→∀b∈l,b.name.size≤400∧b.phis.length≤400∧b.insts.length≤400
 |[],_,_,b,hb=>by simp at hb
 |c::r,m,h,b,hb=>by
  unfold blksFew at h;simp only[Bool.and_eq_true]at h;rcases List.mem_cons.1 hb with rfl|hb
  · have:=h.1
    unfold blkFew at this;simp only[Bool.and_eq_true,decide_eq_true_eq]at this;exact⟨this.1.1.1.1.1,this.1.1.1.1.2,this.1.1.1.2⟩
  · exact blksFew_each h.2 b hb
theorem few_small{F:PFunc}(h:fewB F=true):Small F:=by
 unfold fewB at h;simp only[Bool.and_eq_true,decide_eq_true_eq]at h;refine⟨ZO,ZO,fun i hi=>?_⟩;have:=blksFew_each h.2 _ (mem_of_blk hi);omega
set_option maxHeartbeats 4000000 in
theorem few_calls{W w:World}{fv:Value}{F:PFunc}(hF:FnV W W.heap.size fv F)(hW:Below W.heap.size W w) :
 Calls Tryz.prog 10 #[fv] w fun e w'=>e=.returned (.bool (fewB F))∧Below w.heap.size w w':=by
 obtain⟨A0,c0,A1,c1,A2,c2,rfl,l0,l1,l2,-,-,-,r0,r1,r2⟩:=id hF.open_;unfold Len at *;have hWs:=hW.size;have hb0:=(Below.refl w.heap.size w).alloc (Nat.le_refl _) (.cells #[.slice A0 F.vars.length c0,.slice A1 F.params.length c1,.slice A2 F.blocks.length c2] 26)
 by_cases t1:F.vars.length≤100
 case neg=>
  have HF:=Lib.hid (show fewB F=false by simp[fewB,t1]);go_enter Tryz.func10,Tryz.ntmps10;go_wp2;go_ret;exact⟨ret_bool HF.out.symm,BL⟩
 by_cases t2:F.blocks.length≤40
 case neg=>
  have HF:=Lib.hid (show fewB F=false by simp[fewB,t2]);go_enter Tryz.func10,Tryz.ntmps10;go_wp2;go_ret;exact⟨ret_bool HF.out.symm,BL⟩
 by_cases t3:F.params.length≤20
 case neg=>
  have HF:=Lib.hid (show fewB F=false by simp[fewB,t3]);go_enter Tryz.func10,Tryz.ntmps10;go_wp2;go_ret;exact⟨ret_bool HF.out.symm,BL⟩
 have HN:=Lib.hid (show fewB F=(F.vars.all varFew&&blksFew (varsLen F.vars) F.blocks) by simp[fewB,t1,t2,t3]);go_enter Tryz.func10,Tryz.ntmps10;go_wp2
 go_loopw[3,31] (fun s i wr=>∃n m:Nat,s=.int .i64 m∧i=.int .i64 n∧n≤F.vars.length∧m≤n*400∧Below (w.heap.size+1) (w.alloc (.cells #[.slice A0 F.vars.length c0,.slice A1 F.params.length c1,.slice A2 F.blocks.length c2] 26)) wr∧
  Hid (fewB F=((F.vars.drop n).all varFew&&blksFew (m+varsLen (F.vars.drop n)) F.blocks))) (fun _ i _=>F.vars.length-(intOf i).toNat)
 case atStart=>exact⟨0,0,rfl,rfl,Nat.zero_le _,Nat.zero_le _,by simpa using Below.refl _ _,by rw[Hid,HN.out];simp⟩
 case round=>
  obtain⟨n,m,rfl,rfl,hn,hm,hb,hf⟩:=hrel;have hB:=hb0.trans (hb.mono (Nat.le_succ _));have hWr:Below W.heap.size W wr:=hW.trans (hB.mono hWs);obtain⟨hq,hq0,hq1,hq2⟩:=box3 hb;have hms:m≤40000:=by omega
  by_cases hlt:n<F.vars.length
  · obtain⟨b,off,rfl,hbs,hnz,hc,hc1⟩:=r0.var hWr hlt
    have hd:=Lib.hid (drop_var hlt)
    by_cases hs:(F.var n).name.size≤400
    · have HF:=Lib.hid (show fewB F=((F.vars.drop (n+1)).all varFew&&blksFew (m+(F.var n).name.size+varsLen (F.vars.drop (n+1))) F.blocks) by
       rw[hf.out,hd.out,List.all_cons,varFew,decide_eq_true hs,varsLen,Nat.add_assoc];rfl)
      go_wp2;go_roundw
      case rel=>exact⟨n+1,m+(F.var n).name.size,ZN,ZN,ZO,ZO,BL,HF⟩
      case measure=>simp[intOf];omega
    · have HF:=Lib.hid (show fewB F=false by rw[hf.out,hd.out,List.all_cons,varFew,decide_eq_false hs];rfl)
      go_wp2;go_ret;exact⟨ret_bool HF.out.symm,hB.trans BL⟩
  · have hfv:=Lib.hid (show fewB F=blksFew m F.blocks by rw[hf.out,List.drop_eq_nil_of_le ZO];simp[varsLen])
    clear hf hm;go_wp2;obtain⟨wv,rfl⟩:∃wv:World,wv=wr:=⟨_,rfl⟩
    go_loopw[3,48] (fun s i wr=>∃k m:Nat,s=.int .i64 m∧i=.int .i64 k∧k≤F.blocks.length∧m≤40000∧Below wv.heap.size wv wr∧
     Hid (fewB F=blksFew m (F.blocks.drop k))) (fun _ i _=>F.blocks.length-(intOf i).toNat)
    case atStart=>exact⟨0,m,rfl,rfl,Nat.zero_le _,hms,Below.refl _ _,by simpa[Hid]using hfv.out⟩
    case round=>
     obtain⟨n,m,rfl,rfl,hn,hm,hbx,hf⟩:=hrel;obtain⟨hcx,hgx⟩:=bcell hbx;have hzx:=hbx.size;have hBx:=hB.trans (hbx.mono hB.size);have hWx:Below W.heap.size W wr:=hW.trans (hBx.mono hWs)
     by_cases hlt:n<F.blocks.length
     · obtain⟨bb,off,A3,c3,A4,c4,rfl,hbb,hnz,hy0,hy1,hy2,hy3,hy4,hy5,hy6,l3,l4,k3,k4,r3,r4⟩:=r2.blk hWx hlt
       have hd:=Lib.hid (drop_blk hlt);unfold Len at *;have fail0:¬((F.blk n).name.size≤400∧(F.blk n).phis.length≤400∧(F.blk n).insts.length≤400)→Hid (fewB F=false):=fun h=>by
        rw[Hid,hf.out,hd.out,blksFew,blkFew];simp only[Bool.and_eq_false_iff,decide_eq_false_iff_not];omega
       by_cases s1:(F.blk n).name.size≤400
       case neg=>
        have HF:=fail0 ZO;clear fail0;go_wp2;go_ret;exact⟨ret_bool HF.out.symm,hBx.trans BL⟩
       by_cases s2:(F.blk n).phis.length≤400
       case neg=>
        have HF:=fail0 ZO;clear fail0;go_wp2;go_ret;exact⟨ret_bool HF.out.symm,hBx.trans BL⟩
       by_cases s3:(F.blk n).insts.length≤400
       case neg=>
        have HF:=fail0 ZO;clear fail0;go_wp2;go_ret;exact⟨ret_bool HF.out.symm,hBx.trans BL⟩
       clear fail0;have hh:blkHead (F.blk n)≤8400:=by unfold blkHead;omega
       have HB:=Lib.hid (show fewB F=(phisFew (m+blkHead (F.blk n)) (F.blk n).phis&&instsFew (m+blkHead (F.blk n)+phisLen (F.blk n).phis) (F.blk n).insts&&
        decide (m+blkHead (F.blk n)+phisLen (F.blk n).phis+instsLen (F.blk n).insts≤4000)&&blksFew (m+blkHead (F.blk n)+phisLen (F.blk n).phis+instsLen (F.blk n).insts) (F.blocks.drop (n+1))) by
        rw[hf.out,hd.out,blksFew,blkFew,decide_eq_true s1,decide_eq_true s2,decide_eq_true s3];rfl)
       have hhe:=Lib.hid (show((F.blk n).name.size:Int)+10*(((F.blk n).phis.length:Int)+((F.blk n).insts.length:Int))=(blkHead (F.blk n):Int) by unfold blkHead;push_cast;rfl);obtain⟨wo,rfl⟩:∃wo:World,wo=wr:=⟨_,rfl⟩;go_wp2
       go_loopw[3,85] (fun s i wr=>∃k q:Nat,s=.int .i64 q∧i=.int .i64 k∧k≤(F.blk n).phis.length∧q≤60000∧Below (wo.heap.size+1) (wo.alloc (.cells #[.string (F.blk n).name,.slice A3 (F.blk n).phis.length c3,.slice A4 (F.blk n).insts.length c4,.int .i64 (F.blk n).term.kind,.int .i64 (F.blk n).term.var,.int .i64 (F.blk n).term.t0,.int .i64 (F.blk n).term.t1] 42)) wr∧
        Hid (phisFew (m+blkHead (F.blk n)) (F.blk n).phis=phisFew q ((F.blk n).phis.drop k))∧Hid (m+blkHead (F.blk n)+phisLen (F.blk n).phis=q+phisLen ((F.blk n).phis.drop k))) (fun _ i _=>(F.blk n).phis.length-(intOf i).toNat)
       case atStart=>exact⟨0,m+blkHead (F.blk n),by rw[Int.natCast_add,← hhe.out],rfl,Nat.zero_le _,ZO,by simpa using Below.refl _ _,by simp[Hid],by simp[Hid]⟩
       case round=>
        obtain⟨k,q,rfl,rfl,hk,hq,hbi,hfi,hsi⟩:=hrel;obtain⟨hci,hgi⟩:=bcell (W:=(wo.alloc (.cells #[.string (F.blk n).name,.slice A3 (F.blk n).phis.length c3,.slice A4 (F.blk n).insts.length c4,.int .i64 (F.blk n).term.kind,.int .i64 (F.blk n).term.var,.int .i64 (F.blk n).term.t0,.int .i64 (F.blk n).term.t1] 42))) (by simpa using hbi);have hzi:=hbi.size;simp at hzi;have hqi:=Nat.lt_of_succ_le hzi;have hBi:Below wo.heap.size wo wr:=((Below.refl _ _).alloc (Nat.le_refl _) _).trans (hbi.mono ZS);have hWi:=hWx.trans (hBi.mono hWx.size)
        by_cases hkt:k<(F.blk n).phis.length
        · obtain⟨b5,off5,A5,c5,A6,c6,rfl,hbb5,hx0,hx1,hx2,l5,l6,k5,k6,r5,r6⟩:=r3.phi hWi hkt
          have hdi:=Lib.hid (drop_Phi hkt);have fail1:¬(q≤4000∧((F.blk n).phi k).args.length≤400∧((F.blk n).phi k).froms.length≤400)→Hid (fewB F=false):=fun h=>by
           rw[Hid,HB.out,hfi.out,hdi.out,phisFew];simp only[Bool.and_eq_false_iff,decide_eq_false_iff_not];omega
          unfold Len at *
          by_cases s4:q≤4000
          case neg=>
           have HF:=fail1 ZO;clear fail1;go_wp2;go_ret;exact⟨ret_bool HF.out.symm,hBx.trans (Below.mono (hBi.trans BL) hBx.size)⟩
          by_cases s5:((F.blk n).phi k).args.length≤400
          case neg=>
           have HF:=fail1 ZO;clear fail1;go_wp2;go_ret;exact⟨ret_bool HF.out.symm,hBx.trans (Below.mono (hBi.trans BL) hBx.size)⟩
          by_cases s6:((F.blk n).phi k).froms.length≤400
          case neg=>
           have HF:=fail1 ZO;clear fail1;go_wp2;go_ret;exact⟨ret_bool HF.out.symm,hBx.trans (Below.mono (hBi.trans BL) hBx.size)⟩
          clear fail1
          have HF:=Lib.hid (show phisFew (m+blkHead (F.blk n)) (F.blk n).phis=phisFew (q+(((F.blk n).phi k).args.length+((F.blk n).phi k).froms.length)) ((F.blk n).phis.drop (k+1)) by
           rw[hfi.out,hdi.out,phisFew,decide_eq_true s4,decide_eq_true s5,decide_eq_true s6];rfl)
          have HS:=Lib.hid (show m+blkHead (F.blk n)+phisLen (F.blk n).phis=q+(((F.blk n).phi k).args.length+((F.blk n).phi k).froms.length)+phisLen ((F.blk n).phis.drop (k+1)) by
           rw[hsi.out,hdi.out,phisLen,Nat.add_assoc q])
          go_wp2;go_roundw
          case rel=>exact⟨k+1,q+(((F.blk n).phi k).args.length+((F.blk n).phi k).froms.length),ZN,ZN,ZO,ZO,BL,HF,HS⟩
          case measure=>simp[intOf];omega
        · have hfp:=Lib.hid (show(F.blk n).phis.drop k=[]from List.drop_eq_nil_of_le ZO)
          have hs1:=Lib.hid (show m+blkHead (F.blk n)+phisLen (F.blk n).phis=q by rw[hsi.out,hfp.out];rfl)
          have HB2:=Lib.hid (show fewB F=(instsFew q (F.blk n).insts&&decide (q+instsLen (F.blk n).insts≤4000)&&blksFew (q+instsLen (F.blk n).insts) (F.blocks.drop (n+1))) by
           rw[HB.out,hfi.out,hfp.out,hs1.out];rfl)
          clear hfi hsi HB hgi hfp hs1;obtain⟨wp,rfl⟩:∃wp:World,wp=wr:=⟨_,rfl⟩;go_wp2
          go_loopw[3,116] (fun s i wr=>∃k u:Nat,s=.int .i64 u∧i=.int .i64 k∧k≤(F.blk n).insts.length∧u≤70000∧Below wp.heap.size wp wr∧
           Hid (instsFew q (F.blk n).insts=instsFew u ((F.blk n).insts.drop k))∧Hid (q+instsLen (F.blk n).insts=u+instsLen ((F.blk n).insts.drop k))) (fun _ i _=>(F.blk n).insts.length-(intOf i).toNat)
          case atStart=>exact⟨0,q,rfl,rfl,Nat.zero_le _,ZO,Below.refl _ _,by simp[Hid],by simp[Hid]⟩
          case round=>
           obtain⟨k,u,rfl,rfl,hk2,hu,hbk,hfi,hsi⟩:=hrel;obtain⟨hck,hgk⟩:=bcell hbk;have hzk:=hbk.size;have hBk:Below wo.heap.size wo wr:=hBi.trans (hbk.mono hBi.size);have hWk:=hWx.trans (hBk.mono hWx.size)
           by_cases hkt2:k<(F.blk n).insts.length
           · obtain⟨b5,off5,A5,c5,rfl,hbb5,hx0,hx1,hx2,hx3,l5,k5,r5⟩:=r4.inst hWk hkt2
             have hdi:=Lib.hid (drop_Inst hkt2);have fail1:¬(u≤4000∧((F.blk n).inst k).args.length≤400)→Hid (fewB F=false):=fun h=>by
              rw[Hid,HB2.out,hfi.out,hdi.out,instsFew];simp only[Bool.and_eq_false_iff,decide_eq_false_iff_not];omega
             unfold Len at *
             by_cases s4:u≤4000
             case neg=>
              have HF:=fail1 ZO;clear fail1;go_wp2;go_ret;exact⟨ret_bool HF.out.symm,hBx.trans (Below.mono (hBk.trans BL) hBx.size)⟩
             by_cases s5:((F.blk n).inst k).args.length≤400
             case neg=>
              have HF:=fail1 ZO;clear fail1;go_wp2;go_ret;exact⟨ret_bool HF.out.symm,hBx.trans (Below.mono (hBk.trans BL) hBx.size)⟩
             clear fail1
             have HF:=Lib.hid (show instsFew q (F.blk n).insts=instsFew (u+((F.blk n).inst k).args.length) ((F.blk n).insts.drop (k+1)) by
              rw[hfi.out,hdi.out,instsFew,decide_eq_true s4,decide_eq_true s5];rfl)
             have HS:=Lib.hid (show q+instsLen (F.blk n).insts=u+((F.blk n).inst k).args.length+instsLen ((F.blk n).insts.drop (k+1)) by
              rw[hsi.out,hdi.out,instsLen,Nat.add_assoc u])
             go_wp2;go_roundw
             case rel=>exact⟨k+1,u+((F.blk n).inst k).args.length,ZN,ZN,ZO,ZO,BL,HF,HS⟩
             case measure=>simp[intOf];omega
           · have hfp:=Lib.hid (show(F.blk n).insts.drop k=[]from List.drop_eq_nil_of_le ZO)
             have hs1:=Lib.hid (show q+instsLen (F.blk n).insts=u by rw[hsi.out,hfp.out];rfl)
             have HB3:=Lib.hid (show fewB F=(decide (u≤4000)&&blksFew u (F.blocks.drop (n+1))) by
              rw[HB2.out,hfi.out,hfp.out,hs1.out];rfl)
             clear hfi hsi HB2 hgk hfp hs1
             by_cases s4:u≤4000
             · have HF:=Lib.hid (show fewB F=blksFew u (F.blocks.drop (n+1)) by rw[HB3.out,decide_eq_true s4];rfl)
               go_wp2;go_roundw
               case rel=>exact⟨n+1,u,rfl,ZN,ZO,ZO,hbx.trans (Below.mono hBk hbx.size),HF⟩
               case measure=>simp[intOf];omega
             · have HF:=Lib.hid (show fewB F=false by rw[HB3.out,decide_eq_false s4];rfl)
               go_wp2;go_ret;exact⟨ret_bool HF.out.symm,hBx.trans (Below.mono hBk hBx.size)⟩
     · have hfe:=Lib.hid (show fewB F=true by rw[hf.out,List.drop_eq_nil_of_le ZO];rfl)
       go_wp2;go_ret;exact⟨ret_bool hfe.out.symm,hBx⟩
end Go.Proofs.YtlhhfcleioikoaaGreatDoor
