/- The walk of dom's fronts. -/
import Derived.Test.YtlhhfcleioikoaaGreatDoorShelf
import Derived.Test.YtlhhfcleioikoaaGreatDoorSlc
import Derived.Test.YtlhhfcleioikoaaGreatDoorSch
import Derived.Deep.LoopGhost
namespace Go.Proofs.YtlhhfcleioikoaaGreatDoor
open Go.RowKit Go.Sort
set_option maxRecDepth 100000
theorem T2.sort{wk wr w3:World}{B n gf c:Nat}{X:List (List Int)}(h:T2 wk wr B n gf X)(hg:gf<wk.heap.size)(hc:c<X.length){v:Value}(hv:wr.cell? ⟨gf,c,none⟩=some v)
 (hown:w3.ownsRow B 3 1 v (X.getD c []).length ((sortI (X.getD c [])).map (Value.int .i64))) (hgr:wr.grownBy w3 v.ownBlock):T2 wk w3 B n gf (X.set c (sortI (X.getD c []))):=by
 have hrow:=h.x.row hc hv;have hsz:=h.o.hb.size;refine⟨⟨h.o.hb.grown hgr ZO (fun k hk=>by have:=hrow.2 k hk;omega),fun k hk hne=>(hgr.block k ZO (fun e=>hrow.2 k e.symm hk)).trans (h.o.kp k hk hne)⟩,?_⟩;obtain⟨vs,h1,h2,h3,h4,h5⟩:=h.x;have hvc:vs[c]?=some v:=by
  have:=h2.cellAt c ZO;rw[hv]at this;exact this.symm
 refine⟨vs,by simpa using h1,?_,fun i vi xs hi hx=>?_,h4,h5⟩
 · have:=own_grown h2 (Below.refl _ _) hgr (fun b hb=>own_ne h2 hrow.1 ZD hb)
   simpa using this
 · by_cases hic:c=i
   · subst hic
     rw[List.getElem?_set_self ZO]at hx;simp only[Option.some.injEq]at hx;rw[hvc]at hi;simp only[Option.some.injEq]at hi;subst hx hi;rw[sortI_len];exact hown
   · rw[List.getElem?_set_ne hic]at hx
     exact own_grown (h3 i vi xs hi hx) (Below.refl _ _) hgr (fun b hb hb'=>h4 c i v vi b hic hvc hi hb' hb)
theorem contains_calls{w:World}{B n:Nat}{v:Value}{xs:List Int}(h:w.ownsRow B 3 1 v n (xs.map (Value.int .i64)))(hn:n≤1048576)(z:Int) :
 Calls Tryz.prog 117 #[v,.int .i64 z] w fun e w'=>e=.returned (.bool (xs.contains z))∧w'=w:=by
 have hl:xs.length=n:=by simpa using h.1
 obtain⟨A,c,rfl⟩:=own_form h
 by_cases h0:n=0
 · subst h0
   obtain rfl:=List.eq_nil_of_length_eq_zero hl;refine(Tryz.slices_Contains_int_empty A c z w).mono ?_;rintro e w' ⟨rfl,rfl⟩;exact⟨ZS,rfl⟩
 · obtain⟨m,rfl⟩:∃m,n=m+1:=⟨n-1,ZO⟩
   obtain⟨g,cap,hv,-⟩:=own_succ h;cases hv;refine(Tryz.slices_Contains_int g 0 (m+1) c xs z w ZO ZO (fun j hj=>?_)).mono ?_
   · have:=h.cellAt j ZO
     rw[Nat.zero_add,this];simp[List.getD,hj]
   · rintro e w' ⟨rfl,rfl⟩
     rw[← hl,List.take_length];exact⟨rfl,rfl⟩
def sortedTo(X:List (List Int))(i:Nat):List (List Int):=(List.range X.length).map fun x=>if x<i then sortI (X.getD x []) else X.getD x []
theorem sortedTo_len{X:List (List Int)}{i:Nat}:(sortedTo X i).length=X.length:=by simp[sortedTo]
theorem sortedTo_zero{X:List (List Int)}:sortedTo X 0=X:=by
 refine List.ext_getElem (by simp[sortedTo]) fun i h1 h2=>?_
 simp[sortedTo,List.getD,h2]
theorem sortedTo_at{X:List (List Int)}{i:Nat}(hi:i<X.length):(sortedTo X i).getD i []=X.getD i []:=by simp[sortedTo,List.getD,hi]
theorem sortedTo_step{X:List (List Int)}{i:Nat}:(sortedTo X i).set i (sortI (X.getD i []))=sortedTo X (i+1):=by
 refine List.ext_getElem (by simp[sortedTo]) fun j h1 h2=>?_
 rw[List.getElem_set]
 by_cases e:i=j
 · subst e;simp[sortedTo]
 · rw[if_neg e]
   have:(j<i)↔(j<i+1):=by omega
   simp[sortedTo,this]
def upO(n:Nat)(O:List Nat)(z:Int):Nat:=if z<0 then 0 else pz n O z.toNat+1
theorem upO_some{n:Nat}{O:List Nat}{x:Nat}:upO n O (x:Int)=pz n O x+1:=by
 unfold upO;rw[if_neg ZO];simp
set_option maxHeartbeats 8000000 in
theorem fronts_calls{w6 wk:World}{n gn gl gf tb B bo oo co cp gk:Nat}{O:List Nat}{P:Nat→List Nat}{L L0 V:List (Option Nat)}{PP:List (List Int)}{A6:Option Addr}(hW:Below w6.heap.size w6 wk)(hg6:w6.heap.size≤gf)(hgf:gf<wk.heap.size)
 (g:GrOk n O P) (n2:n≤64) (hOl:O.length≤64) (t:NearOk n O P L) (lv:LvOk (·∈O) (fnO L) (fnO V)) (hVn:V.length=n) (hL0:L0=L.set 0 none)
 (hbo:bo<w6.heap.size) (hO:Rd w6.heap.size (some ⟨bo,oo,none⟩) (ints O) 1 (IntC w6)) (hP:Rd w6.heap.size A6 PP 1 (RowC w6 w6.heap.size)) (hPP:∀b,b<n→PP.getD b []=ints (P b)) (hPl:PP.length=n) (hPn:∀b,(P b).length≤64)
 (ht:tb<wk.heap.size) (htf:tb≠gf) (c0:wk.cell? ⟨tb,0,none⟩=some (.slice (some ⟨gn,0,none⟩) n n)) (c1:wk.cell? ⟨tb,1,none⟩=some (.slice (some ⟨gl,0,none⟩) n n)) (c2:wk.cell? ⟨tb,2,none⟩=some (.slice (some ⟨gk,0,none⟩) n n)) (c3:wk.cell? ⟨tb,3,none⟩=some (.slice (some ⟨gf,0,none⟩) n n))
 (hn:RowO wk gn L0) (hnf:gn≠gf) (hl:RowO wk gl V) (hlf:gl≠gf) (hBk:B≤wk.heap.size) (hf:wk.ownsRow B 23 1 (.slice (some ⟨gf,0,none⟩) n n) n (List.replicate n (.slice none 0 0))) :
 Calls Tryz.prog 89 #[.pointer (some ⟨tb,0,none⟩),.slice (some ⟨bo,oo,none⟩) O.length co,.slice A6 n cp] wk fun e w'=>e=.returned (.tuple #[])∧
  ∃X,X=(List.range n).map (fun x=>ints (frontL n (SF O P L0 (fnO L) O) x))∧T2 wk w' B n gf X:=by
 have n1:1≤n:=by obtain⟨r,hr⟩:=g.hd;have:=g.lt 0 (by rw[hr];simp);omega
 have hO0:0<O.length:=by obtain⟨r,hr⟩:=g.hd;rw[hr];simp
 have G:=Lib.hid g;have TT:=Lib.hid t;have LV:=Lib.hid lv;have HL0:=Lib.hid hL0;have HN:=Lib.hid hn;have HL:=Lib.hid hl;have hL0n:L0.length=n:=by rw[hL0,List.length_set];exact t.len
 have hOc:Hid (∀i,i<O.length→w6.cell? ⟨bo,oo+i,none⟩=some (.int .i64 ((O.getD i 0:Nat):Int))):=fun i hi=>by
  obtain⟨b,off,he,hb,hc⟩:=hO.int (Below.refl _ _) (i:=i) (by simpa[ints]using hi);cases he;rw[hc];simp[ith,ints,List.getD,hi]
 obtain⟨bp,op,rfl,hbp,hPc⟩:=hP.rows ZO;replace hPc:Hid (∀b,b<n→∃A c,w6.cell? ⟨bp,op+b,none⟩=some (.slice A (P b).length c)∧(P b).length≤c∧Rd w6.heap.size A (ints (P b)) 1 (IntC w6)):=fun b hb=>by
  obtain⟨A,c,h1,h2,h3⟩:=hPc b ZO;rw[hPP b hb]at h1 h2 h3;exact⟨A,c,by simpa[ints]using h1,by simpa[ints]using h2,h3⟩
 have hT0:T2 wk wk B n gf (List.replicate n []):=⟨Only.refl _ _,OwnRows.made hf⟩;have hCc:=Lib.hid (And.intro c0 (And.intro c1 (And.intro c2 c3)));clear g t lv hL0 hn hl hO hP hPP hf c0 c1 c2 c3;go_enter Tryz.func89,Tryz.ntmps89;go_wp2
 go_loopw[14] (fun i wr=>∃(k:Nat) (X:List (List Int)),i=.int .i64 k∧k≤O.length∧Hid (FrI n (SF O P L0 (fnO L) (O.take k)) X)∧T2 wk wr B n gf X) (fun i _=>O.length-(intOf i).toNat)
 case atStart=>exact⟨0,_,rfl,Nat.zero_le _,FrI.start (fun x b h=>by simp[SF]at h),hT0⟩
 case round=>as_aux_lemma=>
  clear hT0;obtain⟨k,X,rfl,hk,HX,hT⟩:=hrel;have hw6:Below w6.heap.size w6 wr:=hW.trans (hT.o.hb.mono hg6)
  by_cases hlt:k<O.length
  · have hlt3:(k:Int)<(O.length:Int):=by omega
    have hc:=(hw6.cell (p:=⟨bo,oo+k,none⟩) hbo).trans (hOc.out k hlt);have hbo':=Nat.lt_of_lt_of_le hbo hw6.size;have hbp':=Nat.lt_of_lt_of_le hbp hw6.size;have HBO:=Lib.hid (show O.getD k 0∈O by rw[getD_get hlt];exact List.getElem_mem hlt);have HTK:=Lib.hid (show O.take (k+1)=O.take k++[O.getD k 0] by rw[List.take_succ_eq_append_getElem hlt,getD_get hlt]);generalize O.getD k 0=b at *;have hbn:=G.out.lt b HBO.out;obtain⟨A9,c9,hcp,k9,r9⟩:=hPc.out b hbn;replace hcp:=(hw6.cell (p:=⟨bp,op+b,none⟩) hbp).trans hcp;have hpn:=hPn b;obtain⟨wq,rfl⟩:∃wq:World,wq=wr:=⟨_,rfl⟩;go_wp2
    go_loopw[23] (fun i wr=>∃(m:Nat) (X:List (List Int)),i=.int .i64 m∧m≤(P b).length∧Hid (FrI n (SP O P L0 (fnO L) (O.take k) b ((P b).take m)) X)∧T2 wk wr B n gf X) (fun i _=>(P b).length-(intOf i).toNat)
    case atStart=>exact⟨0,X,rfl,Nat.zero_le _,HX.out.congr (fun x c _=>SP.start.symm),hT⟩
    case round=>as_aux_lemma=>
     clear hT HX hc hcp hw6 hbo' hbp';obtain⟨m,X,rfl,hm,HX,hT⟩:=hrel;have hw6:Below w6.heap.size w6 wr:=hW.trans (hT.o.hb.mono hg6)
     by_cases hml:m<(P b).length
     · have hml3:(m:Int)<((P b).length:Int):=by omega
       obtain⟨b9,o9,rfl,hb9,hc9⟩:=r9.int hw6 (i:=m) (by simpa[ints]using hml);have hpe:ith (ints (P b)) m=(((P b).getD m 0:Nat):Int):=by simp[ith,ints,List.getD,hml]
       rw[hpe]at hc9;have hpm:=Lib.hid (show(P b).getD m 0∈P b by rw[getD_get hml];exact List.getElem_mem hml);have htk:=Lib.hid (show(P b).take (m+1)=(P b).take m++[(P b).getD m 0] by rw[List.take_succ_eq_append_getElem hml,getD_get hml]);clear hpe;generalize (P b).getD m 0=p at *;have hpb:=G.out.plt b _ hpm.out;have hsz:=hT.o.hb.size;have hV:=hT.o.rowO HL.out hlf;have hNr:=hT.o.rowO HN.out hnf;have hcv:=hV.2 p ZO;have hgl:=hV.1;have hgn:=hNr.1;have ht':=Nat.lt_of_lt_of_le ht hT.o.hb.size;have q0:=(hT.o.cell ht htf).trans hCc.out.1;have q1:=(hT.o.cell ht htf).trans hCc.out.2.1;have q3:=(hT.o.cell ht htf).trans hCc.out.2.2.2
       by_cases hpO:p∈O
       · obtain⟨lvl,hlv⟩:∃i,fnO V p=some i:=by
          cases h:fnO V p with
          |none=>exact absurd h (LV.out.iff.2 hpO)
          |some i=>exact⟨i,rfl⟩
         rw[hlv]at hcv;replace hcv:wr.cell? ⟨gl,p,none⟩=some (.int .i64 (lvl:Int)):=hcv;have hln:((lvl:Int)==-1)=false:=by rw[beq_eq_false_iff_ne];omega
         have HPO:=Lib.hid hpO;clear hlv hpO;obtain⟨wu,rfl⟩:∃wu:World,wu=wr:=⟨_,rfl⟩;go_wp2
         go_loopw[10] (fun v10 wr=>∃(cur:Option Nat) (z0:Int) (X:List (List Int)),v10=.int .i64 z0∧Hid (z0=encO cur)∧Hid (Climb L0 (fnO L) b p cur∧FrI n (SC O P L0 (fnO L) (O.take k) b ((P b).take m) p cur) X)∧T2 wk wr B n gf X) (fun v10 _=>upO n O (intOf v10))
         case atStart=>exact⟨some p,p,X,rfl,rfl,⟨Climb.start TT.out HL0.out HBO.out hpm.out HPO.out,HX.out.congr (fun x c _=>SC.start.symm)⟩,hT⟩
         case round=>as_aux_lemma=>
          clear hT HX hcv hsz hV hNr hgl hgn ht' q0 q1 q3 hw6 hc9 hb9;obtain⟨cur,z0,X,rfl,HZ,HC,hT⟩:=hrel;have hw6:Below w6.heap.size w6 wr:=hW.trans (hT.o.hb.mono hg6);have hNr:=hT.o.rowO HN.out hnf;have hgn:=hNr.1;have ht':=Nat.lt_of_lt_of_le ht hT.o.hb.size;have q0:=(hT.o.cell ht htf).trans hCc.out.1;have q3:=(hT.o.cell ht htf).trans hCc.out.2.2.2;have hcb:=hNr.2 b ZO
          by_cases hstop:fnO L0 b=cur
          · rw[hstop,← HZ.out]at hcb
            have HF:=Lib.hid (show FrI n (SP O P L0 (fnO L) (O.take k) b ((P b).take (m+1))) X from by
             rw[htk.out];refine HC.out.2.congr (fun x c _=>?_);rw[← hstop]
             exact SC.stop HPO.out)
            have e0:(z0 !=z0)=false:=by simp
            clear hstop;go_wp2;go_roundw
            case rel=>exact⟨m+1,X,ZN,ZO,HF.out,hT⟩
            case measure=>simp[intOf];omega
          · cases cur with
            |none=>exact absurd HC.out.1 hstop
            |some x=>
             obtain rfl:z0=(x:Int):=HZ.out;have hne:((x:Int) !=encO (fnO L0 b))=true:=by
              rw[bne_iff_ne];intro e;apply hstop;cases h:fnO L0 b with
              |none=>rw[h]at e;simp[encO]at e
              |some q=>rw[h]at e;simp[encO]at e;rw[show q=x from ZO]
             have HST:=Lib.hid hstop;generalize encO (fnO L0 b)=z at *;have hxO:x∈O:=TT.out.tok.rr G.out.gok (((TT.out.tok.anc HC.out.1.1).2) (TT.out.all HPO.out));have hxn:=G.out.lt x hxO;have hcx:=hNr.2 x ZO;have hXn:=HC.out.2.len;obtain⟨v,hcv,hown⟩:=hT.x.at_ (c:=x) ZO;have hgfl:=hT.x.blk.2;have hmeas:Hid (upO n O (encO (fnO L0 x))<upO n O (x:Int)):=by
              unfold Hid;rw[upO_some];cases h:fnO L0 x with
              |none=>simp[upO,encO]
              |some q=>
               have h0:x≠0:=fun e=>by
                rw[e,HL0.out,fnO_set0 (by rw[TT.out.len];omega)]at h;cases h
               rw[HL0.out,fnO_ne h0]at h;have:=(TT.out.tok.up h0 h).2.2.1;show upO n O (q:Int)<_;rw[upO_some];omega
             have HCL:=Lib.hid (HC.out.1.step HL0.out (by exact HST.out));have hle64:(X.getD x []).length≤64:=by
              have:=HC.out.2.row_le hxn (fun c hc=>by
               rcases hc with(⟨h1,_⟩|⟨h1,_⟩)|⟨h1,_⟩
               · exact G.out.lt c (List.mem_of_mem_take h1)
               · rw[h1];exact hbn
               · rw[h1];exact hbn)
              omega
             have hle:(X.getD x []).length≤1048576:=by omega
             have hhas:=HC.out.2.has (b:=b) hxn;have hsc:=fun y c=>SC.step (O:=O) (P:=P) (l:=O.take k) (b:=b) (ps:=(P b).take m) (y:=y) (c:=c) TT.out HL0.out HC.out.1.1
             clear hstop;cases hct:(X.getD x []).contains (b:Int)
             · have hT':=hT.below hgf ((Below.refl wr.heap.size wr).drew)
               have hBw:B≤wr.heap.size:=Nat.le_trans hBk hT.o.hb.size;have hcon:=contains_calls hown hle (b:Int);rw[hct]at hcon;obtain⟨Av,cv,rfl⟩:=own_form hown;have hownD:wr.drew.ownsRow B 3 1 (.slice Av (X.getD x []).length cv) (X.getD x []).length ((X.getD x []).map (Value.int .i64)):=hown;obtain⟨v',w3,hrun,hown3,hg3,hfr3⟩:=run_append1F (P:=Tryz.prog) (ty:=23) wr.drew B 3 8 Tryz.underlying23 Tryz.info3 rfl _ _ _ hownD (.int .i64 (b:Int)) rfl ZO ZD hBw;obtain⟨hT3,hm1,hm2,hm3,hO3⟩:=hT'.add hgf ZO hcv hown3 hg3 hfr3;obtain⟨Av',cv',rfl⟩:=own_form hown3;replace hrun:(Builtin.append_ #[23,23] 23 #[.slice Av (X.getD x []).length cv,.slice (some ⟨wr.heap.size,0,none⟩) 1 1]).run Tryz.prog (wr.alloc (.cells #[.int .i64 (b:Int)] 3)).drew=.ok (.slice Av' ((X.getD x []).length+1) cv') w3:=hrun;have HT3:=Lib.hid hT3;have HX2:=Lib.hid (HC.out.2.add (S':=SC O P L0 (fnO L) (O.take k) b ((P b).take m) p (fnO L0 x)) hxn (fun h=>by rw[hhas.2 h]at hct;cases hct) hsc);have s0:=(hO3.cell ht htf).trans hCc.out.1;have s3:=(hO3.cell ht htf).trans hCc.out.2.2.2;have hN3:=hO3.rowO HN.out hnf;have sx:=hN3.2 x ZO;have st:=Nat.lt_of_lt_of_le ht hO3.hb.size;have sn:=hN3.1;have htf':gf≠tb:=fun e=>htf e.symm
               have hnf':gf≠gn:=fun e=>hnf e.symm
               generalize (X.getD x []).length=len at *;generalize hen:encO (fnO L0 x)=zz at *;have HEN:=Lib.hid hen;clear hct hhas hsc hown hownD hown3 hg3 hfr3 hT3 hO3 hT' hN3 hen hNr hXn;go_wp2_with(go_at_call 117;refine hcon.mono ?_;rintro e w9 ⟨rfl,hw9⟩;subst w9);obtain⟨S0,hS0⟩:∃S0:World→Prop,S0=fun w'=>w'.cell? ⟨tb,3,none⟩=some (.slice (some ⟨gf,0,none⟩) n n)∧w'.cell? ⟨gf,x,none⟩=some (.slice Av len cv)∧tb<w'.heap.size∧gf<w'.heap.size:=⟨_,rfl⟩
               have HS0:=Lib.hid hS0;clear hS0;have k0:=fun xw=>(WS.at HS0 xw).1
               have k1:=fun xw=>(WS.at HS0 xw).2.1
               have k2:=fun xw=>(WS.at HS0 xw).2.2.1
               have k3:=fun xw=>(WS.at HS0 xw).2.2.2
               refine wp_region_treeE (S:=S0) [16] ZK ?hS (fun hSc hcl=>?_)
               case hS=>
                rw[HS0.out];exact⟨ZI,ZI,ZJ,ZJ⟩
               have hne0:Nonempty (WS S0):=⟨⟨_,hSc⟩⟩;have hneT:Nonempty (WS (fun _=>True)):=match hne0 with|⟨x⟩=>⟨⟨x.w,trivial⟩⟩
               refine wpTreeE_run [(0,0),(1,0),(2,0),(3,0),(4,0),(5,0),(6,0),(7,0),(8,0),(9,0),(10,0),(11,0),(12,0),(13,1),(14,1),(15,0)] 1 rfl ZK (fun _ _ _ _ _ h=>h) hSc hcl ?_
               all_goals
                (try simp only[List.map_cons,List.map_nil,List.getD_cons_succ,List.getD_cons_zero])
                repeat
                 first
                 |((with_reducible refine wpSch3_lk ?_ ?_);exact rfl;dsimp only;go_big_quiet_step (fail);(try with_reducible refine wpQuiet_nil ?_);(try dsimp only))
                 |((with_reducible refine wpSch3_fr ?_ ?_);exact rfl;dsimp only;go_big_quiet_step (fail);(try with_reducible refine wpQuiet_nil ?_);(try dsimp only))
                 |((with_reducible refine wpSch3_at ?_ ?_ (fun K hK=>?_))
                   exact rfl;exact rfl;dsimp only
                   first
                   |(refine wp_append_run _ _ _ rfl rfl rfl hrun ?_;simp only[Act.put,List.setIfInBounds_toArray,List.set_cons_zero,List.set_cons_succ])
                   |(go_simp)
                   refine hK.out _ _ ?hS (fun hSc=>?_)
                   case hS=>
                    first
                    |exact hSc
                    |(rw[HS0.out]at hSc ⊢;obtain⟨p0,p1,p2,p3⟩:=hSc;exact⟨ZC0,ZC1,ZT2,ZT3⟩)
                   clear hK K)
                (try(refine wpSch3_nil ?_;intro hSc hcl))
               all_goals
                refine wpTreeE_end [16] rfl ZK ?_;simp only[List.map_cons,List.map_nil,List.getD_cons_succ,List.getD_cons_zero];rw[HS0.out]at hSc;obtain⟨p0,p1,p2,p3⟩:=hSc;clear hne0 hneT hcl HS0 k0 k1 k2 k3;go_wp2;go_roundw
                (case rel=>exact⟨fnO L0 x,zz,_,rfl,HEN.out.symm,⟨HCL.out,HX2.out⟩,HT3.out⟩)
                (case measure=>have:=hmeas.out;simpa[intOf]using this)
             · have hcon:=contains_calls hown hle (b:Int)
               rw[hct]at hcon;obtain⟨Av,cv,rfl⟩:=own_form hown
               have HX2:=Lib.hid (HC.out.2.congr (S':=SC O P L0 (fnO L) (O.take k) b ((P b).take m) p (fnO L0 x)) (fun y c _=>⟨fun h=>(hsc y c).2 (.inl h),fun h=>by
                rcases(hsc y c).1 h with h|⟨rfl,rfl⟩
                · exact h
                · exact hhas.1 hct⟩))
               generalize (X.getD x []).length=len at *;generalize hen:encO (fnO L0 x)=zz at *;have HEN:=Lib.hid hen;clear hct hhas hsc hown hen hXn;go_wp2_with(go_at_call 117;refine hcon.mono ?_;rintro e w9 ⟨rfl,hw9⟩;subst w9);go_roundw
               case rel=>exact⟨fnO L0 x,zz,_,rfl,HEN.out.symm,⟨HCL.out,HX2.out⟩,hT⟩
               case measure=>have:=hmeas.out;simpa[intOf]using this
       · have hvn:fnO V p=none:=by
          cases h:fnO V p with
          |none=>rfl
          |some i=>exact absurd (LV.out.iff.1 (by rw[h];simp)) hpO
         rw[hvn]at hcv;replace hcv:wr.cell? ⟨gl,p,none⟩=some (.int .i64 (-1)):=hcv;have HPO:=Lib.hid hpO;clear hvn hpO;go_wp2;go_roundw
         case rel=>exact⟨m+1,X,ZN,ZO,by unfold Hid;rw[htk.out];exact HX.out.congr (fun x c _=>(SP.out HPO.out).symm),hT⟩
         case measure=>simp[intOf];omega
     · obtain rfl:m=(P b).length:=by omega
       rw[List.take_length]at HX;go_wp2;go_roundw
       case rel=>exact⟨k+1,X,ZN,ZO,by unfold Hid;rw[HTK.out];exact HX.out.congr (fun x c _=>SP.stop),hT⟩
       case measure=>simp[intOf];omega
  · obtain rfl:k=O.length:=by omega
    rw[List.take_length]at HX;have hXn:=HX.out.len;have hSn:=Lib.hid (fun x b (h:SF O P L0 (fnO L) O x b)=>G.out.lt b h.1);have hrl:=Lib.hid (fun x (hx:x<n)=>HX.out.row_le hx (hSn.out x));have ht':=Nat.lt_of_lt_of_le ht hT.o.hb.size;have q3:=(hT.o.cell ht htf).trans hCc.out.2.2.2;obtain⟨X0,rfl⟩:∃X0,X0=X:=⟨_,rfl⟩;go_wp2
    go_loopw[85] (fun i wr=>∃k:Nat,i=.int .i64 k∧k≤n∧T2 wk wr B n gf (sortedTo X0 k)) (fun i _=>n-(intOf i).toNat)
    case atStart=>exact⟨0,rfl,Nat.zero_le _,by rw[sortedTo_zero];exact hT⟩
    case round=>as_aux_lemma=>
     clear hT ht' q3 hw6;obtain⟨k,rfl,hk,hT⟩:=hrel;have ht':=Nat.lt_of_lt_of_le ht hT.o.hb.size;have q3:=(hT.o.cell ht htf).trans hCc.out.2.2.2
     by_cases hkl:k<n
     · have hkl3:(k:Int)<(n:Int):=by omega
       obtain⟨v,hcv,hown⟩:=hT.x.at_ (c:=k) (by rw[sortedTo_len,hXn];exact hkl);have hle:((sortedTo X0 k).getD k []).length≤1048576:=by rw[sortedTo_at ZO];have:=hrl.out k hkl;omega
       have hgfl:=hT.x.blk.2;go_wp2_with fail;refine(sortG_calls hown hle).mono ?_;rintro e w9 ⟨rfl,ho9,hg9⟩;have hT9:=hT.sort hgf (by rw[sortedTo_len,hXn];exact hkl) hcv ho9 hg9;rw[sortedTo_at ZO,sortedTo_step]at hT9;go_wp2;go_roundw
       case rel=>exact⟨k+1,ZN,ZO,hT9⟩
       case measure=>simp[intOf];omega
     · obtain rfl:k=n:=by omega
       go_wp2;go_end0;refine⟨rfl,_,rfl,?_⟩;have e:sortedTo X0 k=(List.range k).map (fun x=>ints (frontL k (SF O P L0 (fnO L) O) x)):=by
        unfold sortedTo;rw[hXn];refine List.map_congr_left fun x hx=>?_
        have hx':=List.mem_range.1 hx;rw[if_pos hx'];exact HX.out.sorted hx' (hSn.out x)
       rw[← e];exact hT
end Go.Proofs.YtlhhfcleioikoaaGreatDoor
