/- The law MergeNone returns true for every program, whatever it is: the tied card of the law is proved. -/
import Derived.Test.YtjlclkcmfokobaaGreatDoorMgNZ
import Derived.Test.YtjlclkcmfokobaaGreatDoorUniQZ
import Derived.Test.YtjlclkcmfokobaaGreatDoorCards
import Derived.ProofKit
namespace Go.Proofs.YtjlclkcmfokobaaGreatDoor
open Go.ChangeShapes Go.WideShapes Go.ChangeAt Go.RowKit
set_option maxRecDepth 100000
theorem YpS(os:Os)(started:os.Started)(H:Type)(enc:TypeId×Value→H) :
 ReturnsInHanded {} Tryz.checked os 4 .any (fun w args=>(Rows.mergeNoneSpec.pre enc Tryz.prog Tryz.f4 [] false w args∧laidMetH Tryz.prog YbH w)∧sizedMet enc Tryz.prog Tryz.f4 (OpenSpec.ofChange Rows.mergeNoneSpec) false w args)
  (Rows.mergeNoneSpec.post enc Tryz.prog Tryz.f4 false true false false):=by
 refine returnsInHanded_of_change_and (C:=Tryz.checked) (X:=fun w _=>laidMetH Tryz.prog YbH w) (fun _ _ _ hh h=>h.of_heap hh) own started ZK Tryz.func4
  (ChangeSpec.witness_shaped (enc:=enc) (C:=Tryz.checked) (os:=os) (X:=fun w _=>laidMetH Tryz.prog YbH w) false (World.laidAll Tryz.prog os YbH) #[.agg #[.slice none 0 0,.slice none 0 0,.slice none 0 0]] 8 (World.laidAll_os _ _ _)
    (World.shaped_of_ZipB ZK ZK) ZK ZK ZK
    (by rw[MakeChecks.laidMetH_plain _ _ _ ZK];exact Yis os _)) ?_
 intro W base args ds gs before hval0 hW _ hsz hL _;have hval:∀(j:Nat) t v,(Tryz.f4).params[j]?=some t→args[j]?=some v→Value.okWide Tryz.prog W .any base t v:=hval0;have hW':=hW;obtain⟨p,q,hA0,hV,rfl,_,_⟩:=hW;have hA:DataW.TrodAll enc Tryz.prog W 0 (fun _=>true) true (Tryz.f4).params.toList args.toList ds p:=hA0;rw[Tryz.params4]at hA hval hsz;obtain⟨v0,d0,rfl,rfl,h0⟩:=trodAll_one hA;obtain⟨rfl,rfl⟩:=trodVars_none hV;simp only[List.append_nil]at hW';rw[MakeChecks.laidMetH_plain _ _ _ ZK]at hL;have hU:=Yir hL;have hwt:Wt 26 d0:=by
  intro x hx;have hm:x∈DataW.weightsEach Tryz.prog ([26]++DataSpec.varTypes Tryz.prog Rows.mergeNoneSpec.plain) ([d0]++[]):=by simp[DataW.weightsEach,hx]
  have:=List.all_eq_true.1 hsz x hm;simpa using this
 obtain⟨F,hF,hN⟩:=Yjh (hval 0 _ v0 rfl rfl) h0 hwt;have hlt:∀x∈p,x.block<W.heap.size:=fun x hx=>by simpa using hW'.lt x hx
 refine(YpR hU hF hN).mono fun e W' ⟨he,hb⟩=>?_
 subst he;exact⟨_,rfl,_,_,_,[],_,[],hW',trodAll_mk1 (shut_bool Tryz.underlying4 _),trodAll_mk1 (Below.trod Yiq ZK (of_decide_eq_true ZK) h0 hb hlt),rfl,hb.frame _,fun h=>by cases h⟩
theorem YpT:Rows.mergeNoneRow.holds Tryz.pinned (OpenSpec.ofChange Rows.mergeNoneSpec):=
 OpenClaim.holds_of_wide 4 Tryz.f4 rfl rfl rfl rfl rfl rfl rfl ⟨rfl,rfl,rfl,rfl,rfl⟩ rfl rfl rfl rfl rfl ZK Tryz.func4 ZK
  (of_decide_eq_true ZK) (by unfold Func.isWrapper;first|(rw[if_pos (by decide +kernel)];kernel_rfl)|(rw[if_neg (by decide +kernel)];exact⟨rfl,rfl⟩))
  (fun os started H enc _=>YpS os started H enc)
theorem mnone_card:Rows.MergeNoneCardSaid:=
 Claim7.holds_tied_plain_at .later [] [.data,.pinned] true Rows.mergeNoneCard.stood.harness false YpT (fun _ h=>by cases h) ZK (fun _ h=>by cases h) mergeNone_row_tie rfl ⟨rfl,rfl⟩ ZK rfl
  (fun f fn hf hfn=>by
    obtain rfl:f=4:=Option.some.inj ((show(Tryz.prog).funcNamed Rows.mergeNoneRow.func=some 4 from ZK).symm.trans hf) |>.symm;obtain rfl:fn=Tryz.f4:=(Option.some.inj (Tryz.func4.symm.trans hfn)).symm
    exact⟨ZK,fun j t ht=>by
     rw[Tryz.params4]at ht;have hm:t∈[26]:=by simpa using Array.mem_of_getElem? ht
     have hall:([26].all fun u=>!(Tryz.prog).wantsStandIn u)=true:=by kernel_rfl
     exact(show(Tryz.prog).wantsStandIn t=false by simpa using List.all_eq_true.1 hall t hm)⟩)
  ZK
#print axioms mnone_card
end Go.Proofs.YtjlclkcmfokobaaGreatDoor
