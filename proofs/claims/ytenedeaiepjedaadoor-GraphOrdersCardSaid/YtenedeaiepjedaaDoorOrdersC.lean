/- The law GraphOrders returns true for every program and every two numbers of blocks, whatever they are: the tied card of the law is proved. The only conditions are the card's own (the two tables of package unicode lie as the program's text lays them). -/
import Derived.Test.YtenedeaiepjedaaDoorOrdersB
import Derived.Test.YtenedeaiepjedaaDoorUni
import Derived.Test.YtenedeaiepjedaaDoorCards
import Derived.ProofKit
namespace Go.Proofs.YtenedeaiepjedaaDoor
open Go.ChangeShapes Go.WideShapes Go.ChangeAt Go.RowKit
set_option maxRecDepth 100000

theorem orders_lifted (os : Os) (started : os.Started) (H : Type) (enc : TypeId × Value → H) :
    ReturnsInHanded {} Tryd.checked os 5 .any (fun w args => (Rows.graphOrdersSpec.pre enc Tryd.prog Tryd.f5 [] false w args ∧ laidMetH Tryd.prog laidL w) ∧ sizedMet enc Tryd.prog Tryd.f5 (OpenSpec.ofChange Rows.graphOrdersSpec) false w args)
      (Rows.graphOrdersSpec.post enc Tryd.prog Tryd.f5 false true false false) := by
  refine returnsInHanded_of_change_and (C := Tryd.checked) (X := fun w _ => laidMetH Tryd.prog laidL w) (fun _ _ _ hh h => h.of_heap hh) own started (by kernel_rfl) Tryd.func5
    (ChangeSpec.witness_shaped (enc := enc) (C := Tryd.checked) (os := os) (X := fun w _ => laidMetH Tryd.prog laidL w) false (World.laidAll Tryd.prog os laidL) #[.agg #[.slice none 0 0, .slice none 0 0, .slice none 0 0], .int .i64 0, .int .i64 0] 8 (World.laidAll_os _ _ _)
      (World.shaped_of_ZipB (by kernel_rfl) (by kernel_rfl)) (by kernel_rfl) (by kernel_rfl) (by kernel_rfl)
      (by rw [MakeChecks.laidMetH_plain _ _ _ (by kernel_rfl)]; exact laid_met os _)) ?_
  intro W base args ds gs before hval0 hW _ hsz hL _
  have hval : ∀ (j : Nat) t v, (Tryd.f5).params[j]? = some t → args[j]? = some v → Value.okWide Tryd.prog W .any base t v := hval0
  have hW' := hW
  obtain ⟨p, q, hA0, hV, rfl, _, _⟩ := hW
  have hA : DataW.TrodAll enc Tryd.prog W 0 (fun _ => true) true (Tryd.f5).params.toList args.toList ds p := hA0
  rw [Tryd.params5] at hA hval hsz
  obtain ⟨v0, v1, v2, d0, d1, d2, p0, p1, p2, rfl, rfl, rfl, h0, h1, h2⟩ := trodAll_three hA
  obtain ⟨rfl, rfl⟩ := trodVars_none hV
  simp only [List.append_nil] at hW'
  rw [MakeChecks.laidMetH_plain _ _ _ (by kernel_rfl)] at hL
  have hU := uni_of_laid hL
  have hwt : Wt 26 d0 := by
    intro x hx
    have hm : x ∈ DataW.weightsEach Tryd.prog ([26, 3, 3] ++ DataSpec.varTypes Tryd.prog Rows.graphOrdersSpec.plain) ([d0, d1, d2] ++ []) := by simp [DataW.weightsEach, hx]
    have := List.all_eq_true.1 hsz x hm
    simpa using this
  obtain ⟨F, hF⟩ := read_fn (hval 0 _ v0 rfl rfl) h0 hwt
  obtain ⟨a, rfl, rfl, rfl, wa⟩ := open_int Tryd.underlying3 (hval 1 _ v1 rfl rfl) h1
  obtain ⟨b, rfl, rfl, rfl, wb⟩ := open_int Tryd.underlying3 (hval 2 _ v2 rfl rfl) h2
  have hlt : ∀ x ∈ p0 ++ [] ++ [], x.block < W.heap.size := fun x hx => by simpa using hW'.lt x hx
  refine (orders_law a b hU hF).mono fun e W' ⟨he, hb⟩ => ?_
  subst he
  exact ⟨_, rfl, _, _, _, [], _, [], hW', trodAll_mk1 (shut_bool Tryd.underlying4 _), (List.append_assoc p0 [] [] ▸ trodAll_mk3 (Below.trod laidOut (by kernel_rfl) (of_decide_eq_true (by kernel_rfl)) h0 hb (fun x hx => hlt x (List.mem_append_left _ (List.mem_append_left _ hx)))) (shut_int Tryd.underlying3 wa) (shut_int Tryd.underlying3 wb)), rfl, hb.frame _, fun h => by cases h⟩
theorem orders_row : Rows.graphOrdersRow.holds Tryd.pinned (OpenSpec.ofChange Rows.graphOrdersSpec) :=
  OpenClaim.holds_of_wide 5 Tryd.f5 rfl rfl rfl rfl rfl rfl rfl ⟨rfl, rfl, rfl, rfl, rfl⟩ rfl rfl rfl rfl rfl (by kernel_rfl) Tryd.func5 (by kernel_rfl)
    (of_decide_eq_true (by kernel_rfl)) (by unfold Func.isWrapper; first | (rw [if_pos (by decide +kernel)]; kernel_rfl) | (rw [if_neg (by decide +kernel)]; exact ⟨rfl, rfl⟩))
    (fun os started H enc _ => orders_lifted os started H enc)
/-- the card of GraphOrders. -/
theorem orders_card : Rows.GraphOrdersCardSaid :=
  Claim7.holds_tied_plain_at .later [] [.data, .pinned] true Rows.graphOrdersCard.stood.harness false orders_row (fun _ h => by cases h) (by kernel_rfl) (fun _ h => by cases h) graphOrders_row_tie rfl ⟨rfl, rfl⟩ (by kernel_rfl) rfl
    (fun f fn hf hfn => by
      obtain rfl : f = 5 := Option.some.inj ((show (Tryd.prog).funcNamed Rows.graphOrdersRow.func = some 5 by kernel_rfl).symm.trans hf) |>.symm
      obtain rfl : fn = Tryd.f5 := (Option.some.inj (Tryd.func5.symm.trans hfn)).symm
      exact ⟨by kernel_rfl, fun j t ht => by
        rw [Tryd.params5] at ht
        have hm : t ∈ [26, 3, 3] := by simpa using Array.mem_of_getElem? ht
        have hall : ([26, 3, 3].all fun u => !(Tryd.prog).wantsStandIn u) = true := by kernel_rfl
        exact (show (Tryd.prog).wantsStandIn t = false by simpa using List.all_eq_true.1 hall t hm)⟩)
    (by kernel_rfl)
#print axioms orders_card
end Go.Proofs.YtenedeaiepjedaaDoor
