/- The law TidyRuns returns true for every program, every input and every number of steps, whatever they are: the tied card of the law is proved. -/
import Derived.Test.YthhjlbflpjhahaaGreatDoorTidyRWZ
import Derived.Test.YthhjlbflpjhahaaGreatDoorUniQZ
import Derived.Test.YthhjlbflpjhahaaGreatDoorCards
import Derived.ProofKit
namespace Go.Proofs.YthhjlbflpjhahaaGreatDoor
open Go.ChangeShapes Go.WideShapes Go.ChangeAt Go.RowKit
set_option maxRecDepth 100000
theorem truns_lifted(os:Os)(started:os.Started)(H:Type)(enc:TypeId×Value→H) :
 ReturnsInHanded {} Tryz.checked os 5 .any (fun w args=>(Rows.tidyRunsSpec.pre enc Tryz.prog Tryz.f5 [] false w args∧laidMetH Tryz.prog laidL w)∧sizedMet enc Tryz.prog Tryz.f5 (OpenSpec.ofChange Rows.tidyRunsSpec) false w args)
  (Rows.tidyRunsSpec.post enc Tryz.prog Tryz.f5 false true false false):=by
 refine returnsInHanded_of_change_and (C:=Tryz.checked) (X:=fun w _=>laidMetH Tryz.prog laidL w) (fun _ _ _ hh h=>h.of_heap hh) own started ZK Tryz.func5
  (ChangeSpec.witness_shaped (enc:=enc) (C:=Tryz.checked) (os:=os) (X:=fun w _=>laidMetH Tryz.prog laidL w) false (World.laidAll Tryz.prog os laidL) #[.agg #[.slice none 0 0,.slice none 0 0,.slice none 0 0],.agg #[.slice none 0 0,.slice none 0 0],.int .u16 0] 8 (World.laidAll_os _ _ _)
    (World.shaped_of_ZipB ZK ZK) ZK ZK ZK
    (by rw[MakeChecks.laidMetH_plain _ _ _ ZK];exact laid_met os _)) ?_
 intro W base args ds gs before hval0 hW _ hsz hL _;have hval:∀(j:Nat) t v,(Tryz.f5).params[j]?=some t→args[j]?=some v→Value.okWide Tryz.prog W .any base t v:=hval0;have hW':=hW;obtain⟨p,q,hA0,hV,rfl,_,_⟩:=hW;have hA:DataW.TrodAll enc Tryz.prog W 0 (fun _=>true) true (Tryz.f5).params.toList args.toList ds p:=hA0;rw[Tryz.params5]at hA hval hsz;obtain⟨v0,v1,v2,d0,d1,d2,p0,p1,p2,rfl,rfl,rfl,h0,h1,h2⟩:=trodAll_three hA;obtain⟨rfl,rfl⟩:=trodVars_none hV;simp only[List.append_nil]at hW';rw[MakeChecks.laidMetH_plain _ _ _ ZK]at hL;have hU:=uni_of_laid hL;have hwt:Wt 26 d0:=by
  intro x hx;have hm:x∈DataW.weightsEach Tryz.prog ([26,38,39]++DataSpec.varTypes Tryz.prog Rows.tidyRunsSpec.plain) ([d0,d1,d2]++[]):=by simp[DataW.weightsEach,hx]
  have:=List.all_eq_true.1 hsz x hm;simpa using this
 have hwi:Wt 38 d1:=by
  intro x hx;have hm:x∈DataW.weightsEach Tryz.prog ([26,38,39]++DataSpec.varTypes Tryz.prog Rows.tidyRunsSpec.plain) ([d0,d1,d2]++[]):=by simp[DataW.weightsEach,hx]
  have:=List.all_eq_true.1 hsz x hm;simpa using this
 obtain⟨F,hF,hN⟩:=read_fnN (hval 0 _ v0 rfl rfl) h0 hwt;obtain⟨I,hI,hIn⟩:=read_in (hval 1 _ v1 rfl rfl) h1 hwi;obtain⟨n,rfl,hn⟩:=read_u16 (hval 2 _ v2 rfl rfl) h2;have hlt:∀x∈p0++p1++p2,x.block<W.heap.size:=fun x hx=>by simpa using hW'.lt x hx
 refine(tidyRuns_law hU hF hN hI hIn hn).mono fun e W' ⟨he,hb⟩=>?_
 subst he;exact⟨_,rfl,_,_,_,[],_,[],hW',trodAll_mk1 (shut_bool Tryz.underlying4 _),trodAll_mk3 (Below.trod laidOut ZK (of_decide_eq_true ZK) h0 hb (fun x hx=>hlt x (List.mem_append_left _ (List.mem_append_left _ hx)))) (Below.trod laidOut ZK (of_decide_eq_true ZK) h1 hb (fun x hx=>hlt x (List.mem_append_left _ (List.mem_append_right _ hx)))) (Below.trod laidOut ZK (of_decide_eq_true ZK) h2 hb (fun x hx=>hlt x (List.mem_append_right _ hx))),rfl,hb.frame _,fun h=>by cases h⟩
theorem truns_row:Rows.tidyRunsRow.holds Tryz.pinned (OpenSpec.ofChange Rows.tidyRunsSpec):=
 OpenClaim.holds_of_wide 5 Tryz.f5 rfl rfl rfl rfl rfl rfl rfl ⟨rfl,rfl,rfl,rfl,rfl⟩ rfl rfl rfl rfl rfl ZK Tryz.func5 ZK
  (of_decide_eq_true ZK) (by unfold Func.isWrapper;first|(rw[if_pos (by decide +kernel)];kernel_rfl)|(rw[if_neg (by decide +kernel)];exact⟨rfl,rfl⟩))
  (fun os started H enc _=>truns_lifted os started H enc)
theorem truns_card:Rows.TidyRunsCardSaid:=
 Claim7.holds_tied_plain_at .later [] [.data,.pinned] true Rows.tidyRunsCard.stood.harness false truns_row (fun _ h=>by cases h) ZK (fun _ h=>by cases h) tidyRuns_row_tie rfl ⟨rfl,rfl⟩ ZK rfl
  (fun f fn hf hfn=>by
    obtain rfl:f=5:=Option.some.inj ((show(Tryz.prog).funcNamed Rows.tidyRunsRow.func=some 5 from ZK).symm.trans hf) |>.symm;obtain rfl:fn=Tryz.f5:=(Option.some.inj (Tryz.func5.symm.trans hfn)).symm
    exact⟨ZK,fun j t ht=>by
     rw[Tryz.params5]at ht;have hm:t∈[26,38,39]:=by simpa using Array.mem_of_getElem? ht
     have hall:([26,38,39].all fun u=>!(Tryz.prog).wantsStandIn u)=true:=by kernel_rfl
     exact(show(Tryz.prog).wantsStandIn t=false by simpa using List.all_eq_true.1 hall t hm)⟩)
  ZK
#print axioms truns_card
end Go.Proofs.YthhjlbflpjhahaaGreatDoor
