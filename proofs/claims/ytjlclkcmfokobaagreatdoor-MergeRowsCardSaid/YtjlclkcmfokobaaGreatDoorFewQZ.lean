/- The walk of checkreinlaw04.Few. -/
import Derived.Test.YtjlclkcmfokobaaGreatDoorTypedZ
import Derived.Test.YtjlclkcmfokobaaGreatDoorJoinQZ
namespace Go.Proofs.YtjlclkcmfokobaaGreatDoor
open Go.RowKit
set_option maxRecDepth 100000
def Ya1:Nat→List PPhi→Bool
 |_,[]=>true
 |m,p::r=>decide (m≤4000)&&decide (p.args.length≤400)&&decide (p.froms.length≤400)&&Ya1 (m+(p.args.length+p.froms.length)) r
def Yau:List PPhi→Nat
 |[]=>0
 |p::r=>p.args.length+p.froms.length+Yau r
def YaU:Nat→List PInst→Bool
 |_,[]=>true
 |m,x::r=>decide (m≤4000)&&decide (x.args.length≤400)&&YaU (m+x.args.length) r
def Yo:List PInst→Nat
 |[]=>0
 |x::r=>x.args.length+Yo r
def Y9(b:PBlock):Nat:=b.name.size+10*(b.phis.length+b.insts.length)
def YcI(m:Nat)(b:PBlock):Bool:=decide (b.name.size≤400)&&decide (b.phis.length≤400)&&decide (b.insts.length≤400)&&Ya1 (m+Y9 b) b.phis&&
 YaU (m+Y9 b+Yau b.phis) b.insts&&decide (m+Y9 b+Yau b.phis+Yo b.insts≤4000)
def Yae:Nat→List PBlock→Bool
 |_,[]=>true
 |m,b::r=>YcI m b&&Yae (m+Y9 b+Yau b.phis+Yo b.insts) r
def Ydd(v:YaE):Bool:=decide (v.name.size≤400)
def YcJ:List YaE→Nat
 |[]=>0
 |v::r=>v.name.size+YcJ r
def Yv(F:PFunc):Bool:=decide (F.vars.length≤100)&&decide (F.blocks.length≤40)&&decide (F.params.length≤20)&&F.vars.all Ydd&&Yae (YcJ F.vars) F.blocks
theorem Yge:∀{l:List PBlock} {m:Nat},Yae m l=true→∀b∈l,b.name.size≤400∧b.phis.length≤400∧b.insts.length≤400
 |[],_,_,b,hb=>by simp at hb
 |c::r,m,h,b,hb=>by
  unfold Yae at h;simp only[Bool.and_eq_true]at h;rcases List.mem_cons.1 hb with rfl|hb
  · have:=h.1
    unfold YcI at this;simp only[Bool.and_eq_true,decide_eq_true_eq]at this;exact⟨this.1.1.1.1.1,this.1.1.1.1.2,this.1.1.1.2⟩
  · exact Yge h.2 b hb
theorem Yde{F:PFunc}(h:Yv F=true):YU F:=by
 unfold Yv at h;simp only[Bool.and_eq_true,decide_eq_true_eq]at h;refine⟨ZO,ZO,fun i hi=>?_⟩;have:=Yge h.2 _ (Y4 hi);omega
set_option maxHeartbeats 4000000 in
theorem Yik{W w:World}{fv:Value}{F:PFunc}(hF:FnV W W.heap.size fv F)(hW:Below W.heap.size W w) :
 Calls Tryz.prog 11 #[fv] w fun e w'=>e=.returned (.bool (Yv F))∧Below w.heap.size w w':=by
 obtain⟨A0,c0,A1,c1,A2,c2,rfl,l0,l1,l2,-,-,-,r0,r1,r2⟩:=id hF.open_;unfold Len at *;have hWs:=hW.size;have hb0:=(Br w.heap.size w).alloc (Nr _) (.cells #[.slice A0 F.vars.length c0,.slice A1 F.params.length c1,.slice A2 F.blocks.length c2] 26)
 by_cases t1:F.vars.length≤100
 case neg=>
  have HF:=Lh (show Yv F=false by simp[Yv,t1]);go_enter Tryz.func11,Tryz.ntmps11;go_wp2;go_ret;exact⟨Yb HF.out.symm,BL⟩
 by_cases t2:F.blocks.length≤40
 case neg=>
  have HF:=Lh (show Yv F=false by simp[Yv,t2]);go_enter Tryz.func11,Tryz.ntmps11;go_wp2;go_ret;exact⟨Yb HF.out.symm,BL⟩
 by_cases t3:F.params.length≤20
 case neg=>
  have HF:=Lh (show Yv F=false by simp[Yv,t3]);go_enter Tryz.func11,Tryz.ntmps11;go_wp2;go_ret;exact⟨Yb HF.out.symm,BL⟩
 have HN:=Lh (show Yv F=(F.vars.all Ydd&&Yae (YcJ F.vars) F.blocks) by simp[Yv,t1,t2,t3]);go_enter Tryz.func11,Tryz.ntmps11;go_wp2
 go_loopw[3,31] (fun s i wr=>∃n m:Nat,s=.int .i64 m∧i=.int .i64 n∧n≤F.vars.length∧m≤n*400∧Below (w.heap.size+1) (w.alloc (.cells #[.slice A0 F.vars.length c0,.slice A1 F.params.length c1,.slice A2 F.blocks.length c2] 26)) wr∧
  Hid (Yv F=((F.vars.drop n).all Ydd&&Yae (m+YcJ (F.vars.drop n)) F.blocks))) (fun _ i _=>F.vars.length-(intOf i).toNat)
 case atStart=>exact⟨0,0,rfl,rfl,Nz _,Nz _,by simpa using Br _ _,by rw[Hid,HN.out];simp⟩
 case round=>
  obtain⟨n,m,rfl,rfl,hn,hm,hb,hf⟩:=hrel;have hB:=hb0.trans (hb.mono (Nat.le_succ _));have hWr:Below W.heap.size W wr:=hW.trans (hB.mono hWs);obtain⟨hq,hq0,hq1,hq2⟩:=Yn hb;have hms:m≤40000:=by omega
  by_cases hlt:n<F.vars.length
  · obtain⟨b,off,rfl,hbs,hnz,hc,hc1⟩:=r0.var hWr hlt
    have hd:=Lh (Yeb hlt)
    by_cases hs:(F.var n).name.size≤400
    · have HF:=Lh (show Yv F=((F.vars.drop (n+1)).all Ydd&&Yae (m+(F.var n).name.size+YcJ (F.vars.drop (n+1))) F.blocks) by
       rw[hf.out,hd.out,List.all_cons,Ydd,decide_eq_true hs,YcJ,Nat.add_assoc];rfl)
      go_wp2;go_roundw
      case rel=>exact⟨n+1,m+(F.var n).name.size,ZN,ZN,ZO,ZO,BL,HF⟩
      case measure=>simp[intOf];omega
    · have HF:=Lh (show Yv F=false by rw[hf.out,hd.out,List.all_cons,Ydd,decide_eq_false hs];rfl)
      go_wp2;go_ret;exact⟨Yb HF.out.symm,hB.trans BL⟩
  · have hfv:=Lh (show Yv F=Yae m F.blocks by rw[hf.out,List.drop_eq_nil_of_le ZO];simp[YcJ])
    clear hf hm;go_wp2;obtain⟨wv,rfl⟩:∃wv:World,wv=wr:=⟨_,rfl⟩
    go_loopw[3,48] (fun s i wr=>∃k m:Nat,s=.int .i64 m∧i=.int .i64 k∧k≤F.blocks.length∧m≤40000∧Below wv.heap.size wv wr∧
     Hid (Yv F=Yae m (F.blocks.drop k))) (fun _ i _=>F.blocks.length-(intOf i).toNat)
    case atStart=>exact⟨0,m,rfl,rfl,Nz _,hms,Br _ _,by simpa[Hid]using hfv.out⟩
    case round=>
     obtain⟨n,m,rfl,rfl,hn,hm,hbx,hf⟩:=hrel;obtain⟨hcx,hgx⟩:=Ya hbx;have hzx:=hbx.size;have hBx:=hB.trans (hbx.mono hB.size);have hWx:Below W.heap.size W wr:=hW.trans (hBx.mono hWs)
     by_cases hlt:n<F.blocks.length
     · obtain⟨bb,off,A3,c3,A4,c4,rfl,hbb,hnz,hy0,hy1,hy2,hy3,hy4,hy5,hy6,l3,l4,k3,k4,r3,r4⟩:=r2.blk hWx hlt
       have hd:=Lh (Yct hlt);unfold Len at *;have fail0:¬((F.blk n).name.size≤400∧(F.blk n).phis.length≤400∧(F.blk n).insts.length≤400)→Hid (Yv F=false):=fun h=>by
        rw[Hid,hf.out,hd.out,Yae,YcI];simp only[Bool.and_eq_false_iff,decide_eq_false_iff_not];omega
       by_cases s1:(F.blk n).name.size≤400
       case neg=>
        have HF:=fail0 ZO;clear fail0;go_wp2;go_ret;exact⟨Yb HF.out.symm,hBx.trans BL⟩
       by_cases s2:(F.blk n).phis.length≤400
       case neg=>
        have HF:=fail0 ZO;clear fail0;go_wp2;go_ret;exact⟨Yb HF.out.symm,hBx.trans BL⟩
       by_cases s3:(F.blk n).insts.length≤400
       case neg=>
        have HF:=fail0 ZO;clear fail0;go_wp2;go_ret;exact⟨Yb HF.out.symm,hBx.trans BL⟩
       clear fail0;have hh:Y9 (F.blk n)≤8400:=by unfold Y9;omega
       have HB:=Lh (show Yv F=(Ya1 (m+Y9 (F.blk n)) (F.blk n).phis&&YaU (m+Y9 (F.blk n)+Yau (F.blk n).phis) (F.blk n).insts&&
        decide (m+Y9 (F.blk n)+Yau (F.blk n).phis+Yo (F.blk n).insts≤4000)&&Yae (m+Y9 (F.blk n)+Yau (F.blk n).phis+Yo (F.blk n).insts) (F.blocks.drop (n+1))) by
        rw[hf.out,hd.out,Yae,YcI,decide_eq_true s1,decide_eq_true s2,decide_eq_true s3];rfl)
       have hhe:=Lh (show((F.blk n).name.size:Int)+10*(((F.blk n).phis.length:Int)+((F.blk n).insts.length:Int))=(Y9 (F.blk n):Int) by unfold Y9;push_cast;rfl);obtain⟨wo,rfl⟩:∃wo:World,wo=wr:=⟨_,rfl⟩;go_wp2
       go_loopw[3,85] (fun s i wr=>∃k q:Nat,s=.int .i64 q∧i=.int .i64 k∧k≤(F.blk n).phis.length∧q≤60000∧Below (wo.heap.size+1) (wo.alloc (.cells #[.string (F.blk n).name,.slice A3 (F.blk n).phis.length c3,.slice A4 (F.blk n).insts.length c4,.int .i64 (F.blk n).term.kind,.int .i64 (F.blk n).term.var,.int .i64 (F.blk n).term.t0,.int .i64 (F.blk n).term.t1] 41)) wr∧
        Hid (Ya1 (m+Y9 (F.blk n)) (F.blk n).phis=Ya1 q ((F.blk n).phis.drop k))∧Hid (m+Y9 (F.blk n)+Yau (F.blk n).phis=q+Yau ((F.blk n).phis.drop k))) (fun _ i _=>(F.blk n).phis.length-(intOf i).toNat)
       case atStart=>exact⟨0,m+Y9 (F.blk n),by rw[Int.natCast_add,← hhe.out],rfl,Nz _,ZO,by simpa using Br _ _,by simp[Hid],by simp[Hid]⟩
       case round=>
        obtain⟨k,q,rfl,rfl,hk,hq,hbi,hfi,hsi⟩:=hrel;obtain⟨hci,hgi⟩:=Ya (W:=(wo.alloc (.cells #[.string (F.blk n).name,.slice A3 (F.blk n).phis.length c3,.slice A4 (F.blk n).insts.length c4,.int .i64 (F.blk n).term.kind,.int .i64 (F.blk n).term.var,.int .i64 (F.blk n).term.t0,.int .i64 (F.blk n).term.t1] 41))) (by simpa using hbi);have hzi:=hbi.size;simp at hzi;have hqi:=Nl hzi;have hBi:Below wo.heap.size wo wr:=((Br _ _).alloc (Nr _) _).trans (hbi.mono ZS);have hWi:=hWx.trans (hBi.mono hWx.size)
        by_cases hkt:k<(F.blk n).phis.length
        · obtain⟨b5,off5,A5,c5,A6,c6,rfl,hbb5,hx0,hx1,hx2,l5,l6,k5,k6,r5,r6⟩:=r3.phi hWi hkt
          have hdi:=Lh (Yds hkt);have fail1:¬(q≤4000∧((F.blk n).phi k).args.length≤400∧((F.blk n).phi k).froms.length≤400)→Hid (Yv F=false):=fun h=>by
           rw[Hid,HB.out,hfi.out,hdi.out,Ya1];simp only[Bool.and_eq_false_iff,decide_eq_false_iff_not];omega
          unfold Len at *
          by_cases s4:q≤4000
          case neg=>
           have HF:=fail1 ZO;clear fail1;go_wp2;go_ret;exact⟨Yb HF.out.symm,hBx.trans (Below.mono (hBi.trans BL) hBx.size)⟩
          by_cases s5:((F.blk n).phi k).args.length≤400
          case neg=>
           have HF:=fail1 ZO;clear fail1;go_wp2;go_ret;exact⟨Yb HF.out.symm,hBx.trans (Below.mono (hBi.trans BL) hBx.size)⟩
          by_cases s6:((F.blk n).phi k).froms.length≤400
          case neg=>
           have HF:=fail1 ZO;clear fail1;go_wp2;go_ret;exact⟨Yb HF.out.symm,hBx.trans (Below.mono (hBi.trans BL) hBx.size)⟩
          clear fail1
          have HF:=Lh (show Ya1 (m+Y9 (F.blk n)) (F.blk n).phis=Ya1 (q+(((F.blk n).phi k).args.length+((F.blk n).phi k).froms.length)) ((F.blk n).phis.drop (k+1)) by
           rw[hfi.out,hdi.out,Ya1,decide_eq_true s4,decide_eq_true s5,decide_eq_true s6];rfl)
          have HS:=Lh (show m+Y9 (F.blk n)+Yau (F.blk n).phis=q+(((F.blk n).phi k).args.length+((F.blk n).phi k).froms.length)+Yau ((F.blk n).phis.drop (k+1)) by
           rw[hsi.out,hdi.out,Yau,Nat.add_assoc q])
          go_wp2;go_roundw
          case rel=>exact⟨k+1,q+(((F.blk n).phi k).args.length+((F.blk n).phi k).froms.length),ZN,ZN,ZO,ZO,BL,HF,HS⟩
          case measure=>simp[intOf];omega
        · have hfp:=Lh (show(F.blk n).phis.drop k=[]from List.drop_eq_nil_of_le ZO)
          have hs1:=Lh (show m+Y9 (F.blk n)+Yau (F.blk n).phis=q by rw[hsi.out,hfp.out];rfl)
          have HB2:=Lh (show Yv F=(YaU q (F.blk n).insts&&decide (q+Yo (F.blk n).insts≤4000)&&Yae (q+Yo (F.blk n).insts) (F.blocks.drop (n+1))) by
           rw[HB.out,hfi.out,hfp.out,hs1.out];rfl)
          clear hfi hsi HB hgi hfp hs1;obtain⟨wp,rfl⟩:∃wp:World,wp=wr:=⟨_,rfl⟩;go_wp2
          go_loopw[3,116] (fun s i wr=>∃k u:Nat,s=.int .i64 u∧i=.int .i64 k∧k≤(F.blk n).insts.length∧u≤70000∧Below wp.heap.size wp wr∧
           Hid (YaU q (F.blk n).insts=YaU u ((F.blk n).insts.drop k))∧Hid (q+Yo (F.blk n).insts=u+Yo ((F.blk n).insts.drop k))) (fun _ i _=>(F.blk n).insts.length-(intOf i).toNat)
          case atStart=>exact⟨0,q,rfl,rfl,Nz _,ZO,Br _ _,by simp[Hid],by simp[Hid]⟩
          case round=>
           obtain⟨k,u,rfl,rfl,hk2,hu,hbk,hfi,hsi⟩:=hrel;obtain⟨hck,hgk⟩:=Ya hbk;have hzk:=hbk.size;have hBk:Below wo.heap.size wo wr:=hBi.trans (hbk.mono hBi.size);have hWk:=hWx.trans (hBk.mono hWx.size)
           by_cases hkt2:k<(F.blk n).insts.length
           · obtain⟨b5,off5,A5,c5,rfl,hbb5,hx0,hx1,hx2,hx3,l5,k5,r5⟩:=r4.inst hWk hkt2
             have hdi:=Lh (YcX hkt2);have fail1:¬(u≤4000∧((F.blk n).inst k).args.length≤400)→Hid (Yv F=false):=fun h=>by
              rw[Hid,HB2.out,hfi.out,hdi.out,YaU];simp only[Bool.and_eq_false_iff,decide_eq_false_iff_not];omega
             unfold Len at *
             by_cases s4:u≤4000
             case neg=>
              have HF:=fail1 ZO;clear fail1;go_wp2;go_ret;exact⟨Yb HF.out.symm,hBx.trans (Below.mono (hBk.trans BL) hBx.size)⟩
             by_cases s5:((F.blk n).inst k).args.length≤400
             case neg=>
              have HF:=fail1 ZO;clear fail1;go_wp2;go_ret;exact⟨Yb HF.out.symm,hBx.trans (Below.mono (hBk.trans BL) hBx.size)⟩
             clear fail1
             have HF:=Lh (show YaU q (F.blk n).insts=YaU (u+((F.blk n).inst k).args.length) ((F.blk n).insts.drop (k+1)) by
              rw[hfi.out,hdi.out,YaU,decide_eq_true s4,decide_eq_true s5];rfl)
             have HS:=Lh (show q+Yo (F.blk n).insts=u+((F.blk n).inst k).args.length+Yo ((F.blk n).insts.drop (k+1)) by
              rw[hsi.out,hdi.out,Yo,Nat.add_assoc u])
             go_wp2;go_roundw
             case rel=>exact⟨k+1,u+((F.blk n).inst k).args.length,ZN,ZN,ZO,ZO,BL,HF,HS⟩
             case measure=>simp[intOf];omega
           · have hfp:=Lh (show(F.blk n).insts.drop k=[]from List.drop_eq_nil_of_le ZO)
             have hs1:=Lh (show q+Yo (F.blk n).insts=u by rw[hsi.out,hfp.out];rfl)
             have HB3:=Lh (show Yv F=(decide (u≤4000)&&Yae u (F.blocks.drop (n+1))) by
              rw[HB2.out,hfi.out,hfp.out,hs1.out];rfl)
             clear hfi hsi HB2 hgk hfp hs1
             by_cases s4:u≤4000
             · have HF:=Lh (show Yv F=Yae u (F.blocks.drop (n+1)) by rw[HB3.out,decide_eq_true s4];rfl)
               go_wp2;go_roundw
               case rel=>exact⟨n+1,u,rfl,ZN,ZO,ZO,hbx.trans (Below.mono hBk hbx.size),HF⟩
               case measure=>simp[intOf];omega
             · have HF:=Lh (show Yv F=false by rw[HB3.out,decide_eq_false s4];rfl)
               go_wp2;go_ret;exact⟨Yb HF.out.symm,hBx.trans (Below.mono hBk hBx.size)⟩
     · have hfe:=Lh (show Yv F=true by rw[hf.out,List.drop_eq_nil_of_le ZO];rfl)
       go_wp2;go_ret;exact⟨Yb hfe.out.symm,hBx⟩
theorem Yil:∀{l:List PPhi} {m:Nat},Ya1 m l=true→∀p∈l,p.args.length≤400∧p.froms.length≤400
 |[],_,_,p,hp=>by simp at hp
 |c::r,m,h,p,hp=>by
  unfold Ya1 at h;simp only[Bool.and_eq_true,decide_eq_true_eq]at h;rcases List.mem_cons.1 hp with rfl|hp
  · exact⟨h.1.1.2,h.1.2⟩
  · exact Yil h.2 p hp
theorem Yim:∀{l:List PInst} {m:Nat},YaU m l=true→∀x∈l,x.args.length≤400
 |[],_,_,p,hp=>by simp at hp
 |c::r,m,h,p,hp=>by
  unfold YaU at h;simp only[Bool.and_eq_true,decide_eq_true_eq]at h;rcases List.mem_cons.1 hp with rfl|hp
  · exact h.1.2
  · exact Yim h.2 p hp
theorem Ygf:∀{l:List PBlock} {m:Nat},Yae m l=true→∀b∈l,(∀p∈b.phis,p.args.length≤400∧p.froms.length≤400)∧∀x∈b.insts,x.args.length≤400
 |[],_,_,b,hb=>by simp at hb
 |c::r,m,h,b,hb=>by
  unfold Yae at h;simp only[Bool.and_eq_true]at h;rcases List.mem_cons.1 hb with rfl|hb
  · have:=h.1
    unfold YcI at this;simp only[Bool.and_eq_true,decide_eq_true_eq]at this;exact⟨Yil this.1.1.2,Yim this.1.2⟩
  · exact Ygf h.2 b hb
theorem YeF{F:PFunc}(h:Yv F=true):Bnd F:=by
 unfold Yv at h;simp only[Bool.and_eq_true,decide_eq_true_eq]at h;refine⟨ZO,ZO,ZO,fun b hb=>?_,fun b hb p hp=>?_,fun b hb x hx=>?_⟩
 · have:=Yge h.2 b hb
   omega
 · have:=(Ygf h.2 b hb).1 p hp
   omega
 · have:=(Ygf h.2 b hb).2 x hx
   omega
structure BOk (b:PBlock):Prop where
 name:b.name.size≤400
 phis:b.phis.length≤400
 insts:b.insts.length≤400
 ph:∀p∈b.phis,p.args.length≤400∧p.froms.length≤400
 ins:∀x∈b.insts,x.args.length≤400
def bSz(b:PBlock):Nat:=Y9 b+Yau b.phis+Yo b.insts
section
variable {F G:PFunc}
theorem Yjv:∀{l:List PPhi} {m:Nat},Ya1 m l=true→∀p∈l,p.args.length≤400∧p.froms.length≤400
 |[],_,_,_,hp=>by cases hp
 |x::l,m,h,p,hp=>by
  simp only[Ya1,Bool.and_eq_true,decide_eq_true_eq]at h;rcases List.mem_cons.1 hp with rfl|hp
  · exact⟨h.1.1.2,h.1.2⟩
  · exact Yjv h.2 p hp
theorem Yjw:∀{l:List PInst} {m:Nat},YaU m l=true→∀x∈l,x.args.length≤400
 |[],_,_,_,hp=>by cases hp
 |x::l,m,h,p,hp=>by
  simp only[YaU,Bool.and_eq_true,decide_eq_true_eq]at h;rcases List.mem_cons.1 hp with rfl|hp
  · exact h.1.2
  · exact Yjw h.2 p hp
theorem Yjx:∀{l:List PPhi} {m:Nat},(∀p∈l,p.args.length≤400∧p.froms.length≤400)→m+Yau l≤4000→Ya1 m l=true
 |[],_,_,_=>rfl
 |x::l,m,h,hs=>by
  simp only[Yau]at hs;simp only[Ya1,Bool.and_eq_true,decide_eq_true_eq];have h1:=h x (List.mem_cons_self ..);exact⟨⟨⟨ZO,h1.1⟩,h1.2⟩,Yjx (fun p hp=>h p (List.mem_cons_of_mem _ hp)) ZO⟩
theorem Yjy:∀{l:List PInst} {m:Nat},(∀x∈l,x.args.length≤400)→m+Yo l≤4000→YaU m l=true
 |[],_,_,_=>rfl
 |x::l,m,h,hs=>by
  simp only[Yo]at hs;simp only[YaU,Bool.and_eq_true,decide_eq_true_eq];exact⟨⟨ZO,h x (List.mem_cons_self ..)⟩,Yjy (fun p hp=>h p (List.mem_cons_of_mem _ hp)) ZO⟩
theorem Yjz:∀{l:List PBlock} {m:Nat},Yae m l=true→(∀b∈l,BOk b)∧(l≠[]→m+(l.map bSz).sum≤4000)
 |[],_,_=>⟨fun _ h=>by(cases h),fun h=>absurd rfl h⟩
 |b::l,m,h=>by
  simp only[Yae,Bool.and_eq_true]at h;obtain⟨h1,h2⟩:=h;obtain⟨h3,h4⟩:=Yjz h2;simp only[YcI,Bool.and_eq_true,decide_eq_true_eq]at h1;obtain⟨⟨⟨⟨⟨g1,g2⟩,g3⟩,g4⟩,g5⟩,g6⟩:=h1;refine⟨fun c hc=>?_,fun _=>?_⟩
  · rcases List.mem_cons.1 hc with rfl|hc
    · exact⟨g1,g2,g3,Yjv g4,Yjw g5⟩
    · exact h3 c hc
  · rw[List.map_cons,List.sum_cons,show bSz b=Y9 b+Yau b.phis+Yo b.insts from rfl]
    cases l with
    |nil=>simp;omega
    |cons c l=>
     have:=h4 ZS;omega
theorem YjA:∀{l:List PBlock} {m:Nat},(∀b∈l,BOk b)→m+(l.map bSz).sum≤4000→Yae m l=true
 |[],_,_,_=>rfl
 |b::l,m,h,hs=>by
  rw[List.map_cons,List.sum_cons,show bSz b=Y9 b+Yau b.phis+Yo b.insts from rfl]at hs;have h1:=h b (List.mem_cons_self ..);simp only[Yae,Bool.and_eq_true];refine⟨?_,YjA (fun c hc=>h c (List.mem_cons_of_mem _ hc)) ZO⟩;simp only[YcI,Bool.and_eq_true,decide_eq_true_eq];exact⟨⟨⟨⟨⟨h1.name,h1.phis⟩,h1.insts⟩,Yjx h1.ph ZO⟩,Yjy h1.ins ZO⟩,ZO⟩
theorem Ypl(hf:Yv F=true)(h1:1≤F.blocks.length)(hv:G.vars=F.vars)(hp:G.params=F.params)(hl:G.blocks.length≤F.blocks.length)(hs:(G.blocks.map bSz).sum≤(F.blocks.map bSz).sum)(hb:(∀b∈F.blocks,BOk b)→(F.blocks.map bSz).sum≤4000→∀b∈G.blocks,BOk b):Yv G=true:=by
 unfold Yv at hf ⊢;rw[hv,hp];simp only[Bool.and_eq_true,decide_eq_true_eq]at hf ⊢;obtain⟨⟨⟨⟨g1,g2⟩,g3⟩,g4⟩,g5⟩:=hf;obtain⟨h2,h3⟩:=Yjz g5;have h4:=h3 (fun e=>by rw[e]at h1;simp at h1);exact⟨⟨⟨⟨g1,ZO⟩,g3⟩,g4⟩,YjA (hb h2 ZO) ZO⟩
theorem Ypm{f:PBlock→Nat}:∀{l:List PBlock} {x:PBlock},x∈l→f x≤(l.map f).sum
 |y::l,x,h=>by
  rw[List.map_cons,List.sum_cons];rcases List.mem_cons.1 h with rfl|h
  · exact ZO
  · have:=Ypm (f:=f) h
    omega
theorem Yd2:∀{l m:List PInst},Yo (l++m)=Yo l+Yo m
 |[],m=>by simp[Yo]
 |x::l,m=>by
  rw[List.cons_append,Yo,Yo,Yd2];omega
end
end Go.Proofs.YtjlclkcmfokobaaGreatDoor
