/- The law DeadNone returns true for every program, whatever it is: the tied card of the law is proved. The only conditions are the card's own (the two tables of package unicode lie as the program's text lays them). -/
import Derived.Test.YtjdkcichkpolgaaGreatDoorDmN
import Derived.Test.YtjdkcichkpolgaaGreatDoorUni
import Derived.Test.YtjdkcichkpolgaaGreatDoorCards
import Derived.ProofKit
namespace Go.Proofs.YtjdkcichkpolgaaGreatDoor
open Go.ChangeShapes Go.WideShapes Go.ChangeAt Go.RowKit
set_option maxRecDepth 100000
theorem dnone_lifted (os : Os) (started : os.Started) (H : Type) (enc : TypeId × Value → H) :
 ReturnsInHanded {} Tryz.checked os 7 .any (fun w args => (Rows.deadNoneSpec.pre enc Tryz.prog Tryz.f7 [] false w args ∧ laidMetH Tryz.prog laidL w) ∧ sizedMet enc Tryz.prog Tryz.f7 (OpenSpec.ofChange Rows.deadNoneSpec) false w args)
  (Rows.deadNoneSpec.post enc Tryz.prog Tryz.f7 false true false false) := by
 refine returnsInHanded_of_change_and (C := Tryz.checked) (X := fun w _ => laidMetH Tryz.prog laidL w) (fun _ _ _ hh h => h.of_heap hh) own started ZK Tryz.func7
  (ChangeSpec.witness_shaped (enc := enc) (C := Tryz.checked) (os := os) (X := fun w _ => laidMetH Tryz.prog laidL w) false (World.laidAll Tryz.prog os laidL) #[.agg #[.slice none 0 0, .slice none 0 0, .slice none 0 0]] 8 (World.laidAll_os _ _ _)
    (World.shaped_of_ZipB ZK ZK) ZK ZK ZK
    (by rw [MakeChecks.laidMetH_plain _ _ _ ZK]; exact laid_met os _)) ?_
 intro W base args ds gs before hval0 hW _ hsz hL _
 have hval : ∀ (j : Nat) t v, (Tryz.f7).params[j]? = some t → args[j]? = some v → Value.okWide Tryz.prog W .any base t v := hval0
 have hW' := hW
 obtain ⟨p, q, hA0, hV, rfl, _, _⟩ := hW
 have hA : DataW.TrodAll enc Tryz.prog W 0 (fun _ => true) true (Tryz.f7).params.toList args.toList ds p := hA0
 rw [Tryz.params7] at hA hval hsz
 obtain ⟨v0, d0, rfl, rfl, h0⟩ := trodAll_one hA
 obtain ⟨rfl, rfl⟩ := trodVars_none hV
 simp only [List.append_nil] at hW'
 rw [MakeChecks.laidMetH_plain _ _ _ ZK] at hL
 have hU := uni_of_laid hL
 have hwt : Wt 26 d0 := by
  intro x hx
  have hm : x ∈ DataW.weightsEach Tryz.prog ([26] ++ DataSpec.varTypes Tryz.prog Rows.deadNoneSpec.plain) ([d0] ++ []) := by simp [DataW.weightsEach, hx]
  have := List.all_eq_true.1 hsz x hm
  simpa using this
 obtain ⟨F, hF⟩ := read_fn (hval 0 _ v0 rfl rfl) h0 hwt
 have hlt : ∀ x ∈ p, x.block < W.heap.size := fun x hx => by simpa using hW'.lt x hx
 refine (deadNone_law hU hF).mono fun e W' ⟨he, hb⟩ => ?_
 subst he
 exact ⟨_, rfl, _, _, _, [], _, [], hW', trodAll_mk1 (shut_bool Tryz.underlying4 _), trodAll_mk1 (Below.trod laidOut ZK (of_decide_eq_true ZK) h0 hb hlt), rfl, hb.frame _, fun h => by cases h⟩
theorem dnone_row : Rows.deadNoneRow.holds Tryz.pinned (OpenSpec.ofChange Rows.deadNoneSpec) :=
 OpenClaim.holds_of_wide 7 Tryz.f7 rfl rfl rfl rfl rfl rfl rfl ⟨rfl, rfl, rfl, rfl, rfl⟩ rfl rfl rfl rfl rfl ZK Tryz.func7 ZK
  (of_decide_eq_true ZK) (by unfold Func.isWrapper; first | (rw [if_pos (by decide +kernel)]; kernel_rfl) | (rw [if_neg (by decide +kernel)]; exact ⟨rfl, rfl⟩))
  (fun os started H enc _ => dnone_lifted os started H enc)
theorem dnone_card : Rows.DeadNoneCardSaid :=
 Claim7.holds_tied_plain_at .later [] [.data, .pinned] true Rows.deadNoneCard.stood.harness false dnone_row (fun _ h => by cases h) ZK (fun _ h => by cases h) deadNone_row_tie rfl ⟨rfl, rfl⟩ ZK rfl
  (fun f fn hf hfn => by
    obtain rfl : f = 7 := Option.some.inj ((show (Tryz.prog).funcNamed Rows.deadNoneRow.func = some 7 from ZK).symm.trans hf) |>.symm
    obtain rfl : fn = Tryz.f7 := (Option.some.inj (Tryz.func7.symm.trans hfn)).symm
    exact ⟨ZK, fun j t ht => by
     rw [Tryz.params7] at ht
     have hm : t ∈ [26] := by simpa using Array.mem_of_getElem? ht
     have hall : ([26].all fun u => !(Tryz.prog).wantsStandIn u) = true := by kernel_rfl
     exact (show (Tryz.prog).wantsStandIn t = false by simpa using List.all_eq_true.1 hall t hm)⟩)
  ZK
#print axioms dnone_card
end Go.Proofs.YtjdkcichkpolgaaGreatDoor
