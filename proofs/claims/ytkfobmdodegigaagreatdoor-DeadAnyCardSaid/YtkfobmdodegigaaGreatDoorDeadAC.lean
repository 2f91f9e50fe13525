/- The law DeadAny returns true for every program, every input, every number of steps and every number, whatever they are: the tied card of the law is proved. -/
import Derived.Test.YtkfobmdodegigaaGreatDoorLawA
import Derived.Test.YtkfobmdodegigaaGreatDoorUniQ
import Derived.Test.YtkfobmdodegigaaGreatDoorCards
import Derived.ProofKit
namespace Go.Proofs.YtkfobmdodegigaaGreatDoor
open Go.ChangeShapes Go.WideShapes Go.ChangeAt Go.RowKit
set_option maxRecDepth 100000
theorem dany_lifted(os:Os)(started:os.Started)(H:Type)(enc:TypeId×Value→H) :
 ReturnsInHanded {} Tryz.checked os 3 .any (fun w args=>(Rows.deadAnySpec.pre enc Tryz.prog Tryz.f3 [] false w args∧laidMetH Tryz.prog laidL w)∧sizedMet enc Tryz.prog Tryz.f3 (OpenSpec.ofChange Rows.deadAnySpec) false w args)
  (Rows.deadAnySpec.post enc Tryz.prog Tryz.f3 false true false false):=by
 refine returnsInHanded_of_change_and (C:=Tryz.checked) (X:=fun w _=>laidMetH Tryz.prog laidL w) (fun _ _ _ hh h=>h.of_heap hh) own started ZK Tryz.func3
  (ChangeSpec.witness_shaped (enc:=enc) (C:=Tryz.checked) (os:=os) (X:=fun w _=>laidMetH Tryz.prog laidL w) false (World.laidAll Tryz.prog os laidL) #[.agg #[.slice none 0 0,.slice none 0 0,.slice none 0 0],.agg #[.slice none 0 0,.slice none 0 0],.int .u16 0,.int .i64 0] 9 (World.laidAll_os _ _ _)
    (World.shaped_of_ZipB ZK ZK) ZK ZK ZK
    (by rw[MakeChecks.laidMetH_plain _ _ _ ZK];exact laid_met os _)) ?_
 intro W base args ds gs before hval0 hW _ hsz hL _;have hval:∀(j:Nat) t v,(Tryz.f3).params[j]?=some t→args[j]?=some v→Value.okWide Tryz.prog W .any base t v:=hval0;have hW':=hW;obtain⟨p,q,hA0,hV,rfl,_,_⟩:=hW;have hA:DataW.TrodAll enc Tryz.prog W 0 (fun _=>true) true (Tryz.f3).params.toList args.toList ds p:=hA0;rw[Tryz.params3]at hA hval hsz;obtain⟨v0,v1,v2,v3,d0,d1,d2,d3,p0,p1,p2,p3,rfl,rfl,rfl,h0,h1,h2,h3⟩:=trodAll_four hA;obtain⟨rfl,rfl⟩:=trodVars_none hV;simp only[List.append_nil]at hW';rw[MakeChecks.laidMetH_plain _ _ _ ZK]at hL;have hU:=uni_of_laid hL;have hwt:Wt 26 d0:=by
  intro x hx;have hm:x∈DataW.weightsEach Tryz.prog ([26,30,31,2]++DataSpec.varTypes Tryz.prog Rows.deadAnySpec.plain) ([d0,d1,d2,d3]++[]):=by simp[DataW.weightsEach,hx]
  have:=List.all_eq_true.1 hsz x hm;simpa using this
 have hwi:Wt 30 d1:=by
  intro x hx;have hm:x∈DataW.weightsEach Tryz.prog ([26,30,31,2]++DataSpec.varTypes Tryz.prog Rows.deadAnySpec.plain) ([d0,d1,d2,d3]++[]):=by simp[DataW.weightsEach,hx]
  have:=List.all_eq_true.1 hsz x hm;simpa using this
 obtain⟨F,hF,hN⟩:=read_fnN (hval 0 _ v0 rfl rfl) h0 hwt;obtain⟨I,hI,hIn⟩:=read_in (hval 1 _ v1 rfl rfl) h1 hwi;obtain⟨n,rfl,hn⟩:=read_u16 (hval 2 _ v2 rfl rfl) h2;obtain⟨m,rfl⟩:=okWide_int Tryz.underlying2 (hval 3 _ v3 rfl rfl);have hlt:∀x∈p0++p1++p2++p3,x.block<W.heap.size:=fun x hx=>by simpa using hW'.lt x hx
 refine(deadAny_law hU hF hN hI hIn hn).mono fun e W' ⟨he,hb⟩=>?_
 subst he;exact⟨_,rfl,_,_,_,[],_,[],hW',trodAll_mk1 (shut_bool Tryz.underlying4 _),trodAll_mk4 (Below.trod laidOut ZK (of_decide_eq_true ZK) h0 hb (fun x hx=>hlt x (List.mem_append_left _ (List.mem_append_left _ (List.mem_append_left _ hx))))) (Below.trod laidOut ZK (of_decide_eq_true ZK) h1 hb (fun x hx=>hlt x (List.mem_append_left _ (List.mem_append_left _ (List.mem_append_right _ hx))))) (Below.trod laidOut ZK (of_decide_eq_true ZK) h2 hb (fun x hx=>hlt x (List.mem_append_left _ (List.mem_append_right _ hx)))) (Below.trod laidOut ZK (of_decide_eq_true ZK) h3 hb (fun x hx=>hlt x (List.mem_append_right _ hx))),rfl,hb.frame _,fun h=>by cases h⟩
theorem dany_row:Rows.deadAnyRow.holds Tryz.pinned (OpenSpec.ofChange Rows.deadAnySpec):=
 OpenClaim.holds_of_wide 3 Tryz.f3 rfl rfl rfl rfl rfl rfl rfl ⟨rfl,rfl,rfl,rfl,rfl⟩ rfl rfl rfl rfl rfl ZK Tryz.func3 ZK
  (of_decide_eq_true ZK) (by unfold Func.isWrapper;first|(rw[if_pos (by decide +kernel)];kernel_rfl)|(rw[if_neg (by decide +kernel)];exact⟨rfl,rfl⟩))
  (fun os started H enc _=>dany_lifted os started H enc)
theorem dany_card:Rows.DeadAnyCardSaid:=
 Claim7.holds_tied_plain_at .later [] [.data,.pinned] true Rows.deadAnyCard.stood.harness false dany_row (fun _ h=>by cases h) ZK (fun _ h=>by cases h) deadAny_row_tie rfl ⟨rfl,rfl⟩ ZK rfl
  (fun f fn hf hfn=>by
    obtain rfl:f=3:=Option.some.inj ((show(Tryz.prog).funcNamed Rows.deadAnyRow.func=some 3 from ZK).symm.trans hf) |>.symm;obtain rfl:fn=Tryz.f3:=(Option.some.inj (Tryz.func3.symm.trans hfn)).symm
    exact⟨ZK,fun j t ht=>by
     rw[Tryz.params3]at ht;have hm:t∈[26,30,31,2]:=by simpa using Array.mem_of_getElem? ht
     have hall:([26,30,31,2].all fun u=>!(Tryz.prog).wantsStandIn u)=true:=by kernel_rfl
     exact(show(Tryz.prog).wantsStandIn t=false by simpa using List.all_eq_true.1 hall t hm)⟩)
  ZK
#print axioms dany_card
end Go.Proofs.YtkfobmdodegigaaGreatDoor
