/- The law MergeRows returns true for all places, whatever they are: the tied card of the law is proved. -/
import Derived.Test.YtjlclkcmfokobaaGreatDoorMgVZ
import Derived.Test.YtjlclkcmfokobaaGreatDoorUniQZ
import Derived.Test.YtjlclkcmfokobaaGreatDoorCards
import Derived.ProofKit
namespace Go.Proofs.YtjlclkcmfokobaaGreatDoor
open Go.ChangeShapes Go.WideShapes Go.ChangeAt Go.RowKit Go.Deep
set_option maxRecDepth 100000
section
variable {H:Type} {enc:TypeId×Value→H} {W:World} {sp:Nat→Bool} {held:Bool}
theorem YrQ{r:Reach}{b0:Nat}{v:Value}{d:DataW H}{p:List MemPlace}(hv:Value.okWide Tryz.prog W r b0 47 v)(h:DataW.Trod enc Tryz.prog W 0 sp held 47 v d p):∃A n c ps,v=.slice A n c∧PlS W A n ps:=by
 obtain⟨a,len,cap,rfl⟩:=okWide_slice Tryz.underlying47 hv;obtain⟨fuel,hf⟩:=h;have hf:DataW.trod enc Tryz.prog W 0 sp held fuel 47 [.slice a len cap]=some (d,p):=by simpa[Value.cells]using hf
 have hc:(Tryz.prog).cellsOf 5=1:=by kernel_rfl
 rcases open_slice Tryz.underlying47 hf with⟨h1,-⟩|⟨a',len',cap',m,n,D,Pl,h1,-,h2,h3,h4,hy,h5⟩
 · simp only[List.cons.injEq,and_true,Value.slice.injEq]at h1
   obtain⟨rfl,rfl,rfl⟩:=h1;exact⟨_,_,_,[],rfl,⟨fun i hi=>absurd hi (Nat.not_lt_zero _)⟩⟩
 · simp only[List.cons.injEq,and_true,Value.slice.injEq]at h1
   obtain⟨rfl,rfl,rfl⟩:=h1;have hle:len≤m:=by rw[h4];split<;>omega
   obtain⟨f,hf⟩:=choose_lt (α:=Int) (n:=len) (p:=fun i x=>∃b off,a'=⟨b,off,none⟩∧b<W.heap.size∧W.cell? ⟨b,off+i,none⟩=some (.int .u8 x)∧0≤x∧x<256) (fun i hi=>by
    obtain⟨cs,c1,c2⟩:=h5 i ZO;rw[hc]at c1;obtain⟨cs0,d1,-⟩:=h5 0 ZO;rw[hc]at d1;obtain⟨b,off,rfl⟩:=Ynd d1 ZD;obtain⟨hb,hl,hcell⟩:=Yne c1 ZD;obtain⟨x,rfl,-,hx⟩:=DataW.trod_int Tryz.underlying5 c2;have h7:=hcell 0 ZD;rw[Nat.mul_one,Nat.add_zero]at h7;simp[Lit.wf,IntKind.min,IntKind.max,IntKind.signed,IntKind.bits]at hx
    exact⟨x,b,off,rfl,hb,h7,hx.1,ZO⟩)
   refine⟨some a',len,cap,(List.range len).map f,rfl,⟨fun i hi=>?_⟩⟩;have e:ith ((List.range len).map f) i=f i:=by simp[ith,List.getD,hi]
   obtain⟨b,off,rfl,h⟩:=hf i hi;rw[e];exact⟨b,off,rfl,h⟩
end
theorem YrR(os:Os)(started:os.Started)(H:Type)(enc:TypeId×Value→H) :
 ReturnsInHanded {} Tryz.checked os 5 .any (fun w args=>(Rows.mergeRowsSpec.pre enc Tryz.prog Tryz.f5 [] false w args∧laidMetH Tryz.prog YbH w)∧sizedMet enc Tryz.prog Tryz.f5 (OpenSpec.ofChange Rows.mergeRowsSpec) false w args)
  (Rows.mergeRowsSpec.post enc Tryz.prog Tryz.f5 false true false false):=by
 refine returnsInHanded_of_change_and (C:=Tryz.checked) (X:=fun w _=>laidMetH Tryz.prog YbH w) (fun _ _ _ hh h=>h.of_heap hh) own started ZK Tryz.func5
  (ChangeSpec.witness_shaped (enc:=enc) (C:=Tryz.checked) (os:=os) (X:=fun w _=>laidMetH Tryz.prog YbH w) false (World.laidAll Tryz.prog os YbH) #[.slice none 0 0] 8 (World.laidAll_os _ _ _)
    (World.shaped_of_ZipB ZK ZK) ZK ZK ZK
    (by rw[MakeChecks.laidMetH_plain _ _ _ ZK];exact Yis os _)) ?_
 intro W base args ds gs before hval0 hW _ hsz hL _;have hval:∀(j:Nat) t v,(Tryz.f5).params[j]?=some t→args[j]?=some v→Value.okWide Tryz.prog W .any base t v:=hval0;have hW':=hW;obtain⟨p,q,hA0,hV,rfl,_,_⟩:=hW;have hA:DataW.TrodAll enc Tryz.prog W 0 (fun _=>true) true (Tryz.f5).params.toList args.toList ds p:=hA0;rw[Tryz.params5]at hA hval hsz;obtain⟨v0,d0,rfl,rfl,h0⟩:=trodAll_one hA;obtain⟨rfl,rfl⟩:=trodVars_none hV;simp only[List.append_nil]at hW';rw[MakeChecks.laidMetH_plain _ _ _ ZK]at hL;have hU:=Yir hL;obtain⟨A,n,c,ps,rfl,hp⟩:=YrQ (hval 0 _ v0 rfl rfl) h0;have hlt:∀x∈p,x.block<W.heap.size:=fun x hx=>by simpa using hW'.lt x hx
 refine(YrP hU hp).mono fun e W' ⟨he,hb⟩=>?_
 subst he;exact⟨_,rfl,_,_,_,[],_,[],hW',trodAll_mk1 (shut_bool Tryz.underlying4 _),trodAll_mk1 (Below.trod Yiq ZK (of_decide_eq_true ZK) h0 hb hlt),rfl,hb.frame _,fun h=>by cases h⟩
theorem YrS:Rows.mergeRowsRow.holds Tryz.pinned (OpenSpec.ofChange Rows.mergeRowsSpec):=
 OpenClaim.holds_of_wide 5 Tryz.f5 rfl rfl rfl rfl rfl rfl rfl ⟨rfl,rfl,rfl,rfl,rfl⟩ rfl rfl rfl rfl rfl ZK Tryz.func5 ZK
  (of_decide_eq_true ZK) (by unfold Func.isWrapper;first|(rw[if_pos (by decide +kernel)];kernel_rfl)|(rw[if_neg (by decide +kernel)];exact⟨rfl,rfl⟩))
  (fun os started H enc _=>YrR os started H enc)
theorem mrows_card:Rows.MergeRowsCardSaid:=
 Claim7.holds_tied_plain_at .later [] [.data,.pinned] true Rows.mergeRowsCard.stood.harness false YrS (fun _ h=>by cases h) ZK (fun _ h=>by cases h) mergeRows_row_tie rfl ⟨rfl,rfl⟩ ZK rfl
  (fun f fn hf hfn=>by
    obtain rfl:f=5:=Option.some.inj ((show(Tryz.prog).funcNamed Rows.mergeRowsRow.func=some 5 from ZK).symm.trans hf) |>.symm;obtain rfl:fn=Tryz.f5:=(Option.some.inj (Tryz.func5.symm.trans hfn)).symm
    exact⟨ZK,fun j t ht=>by
     rw[Tryz.params5]at ht;have hm:t∈[47]:=by simpa using Array.mem_of_getElem? ht
     have hall:([47].all fun u=>!(Tryz.prog).wantsStandIn u)=true:=by kernel_rfl
     exact(show(Tryz.prog).wantsStandIn t=false by simpa using List.all_eq_true.1 hall t hm)⟩)
  ZK
#print axioms mrows_card
end Go.Proofs.YtjlclkcmfokobaaGreatDoor
