/- The tree gone through, into each block and out of it: what is open and what was seen, as plain data; all goes as brackets do. No program is walked here. -/
import Derived.Test.YtjdkcichkpolgaaGreatDoorDescP
namespace Go.Proofs.YtjdkcichkpolgaaGreatDoor
open Go.RowKit
set_option maxRecDepth 100000
def evT (K : Nat → List Nat) : Nat → Nat → List (Nat × Bool)
 | 0, b => [(b, true), (b, false)]
 | f + 1, b => (b, true) :: ((K b).flatMap (evT K f) ++ [(b, false)])
def evS (n : Nat) (ov : Nat → Nat → Bool) (lv : Nat → Nat) (s : List Nat × List Nat) (e : Nat × Bool) : Option (List Nat × List Nat) :=
 if e.1 < n then
  if e.2 = true then
   if (∀ a ∈ s.1, ov a e.1 = true) ∧ lv e.1 = s.1.length ∧ e.1 ∉ s.2 then some (s.1 ++ [e.1], s.2 ++ [e.1]) else none
  else if s.1.getLast? = some e.1 then some (s.1.dropLast, s.2) else none
 else none
def evR (n : Nat) (ov : Nat → Nat → Bool) (lv : Nat → Nat) : List (Nat × Bool) → List Nat × List Nat → Option (List Nat × List Nat)
 | [], s => some s
 | e :: es, s => (evS n ov lv s e).bind (evR n ov lv es)
section
variable {n : Nat} {ov : Nat → Nat → Bool} {lv : Nat → Nat} {s t : List Nat × List Nat}
theorem evR_app : ∀ {xs ys : List (Nat × Bool)} {s : List Nat × List Nat}, evR n ov lv (xs ++ ys) s = (evR n ov lv xs s).bind (evR n ov lv ys)
 | [], _, _ => rfl
 | e :: xs, ys, s => by
  rw [List.cons_append, evR, evR]
  cases h : evS n ov lv s e with
  | none => rfl
  | some s' => exact evR_app
theorem evR_snoc {xs : List (Nat × Bool)} {e : Nat × Bool} (h : evR n ov lv xs s = some t) : evR n ov lv (xs ++ [e]) s = evS n ov lv t e := by
 rw [evR_app, h]
 show evR n ov lv [e] t = _
 rw [evR]
 cases evS n ov lv t e <;> rfl
theorem evR_prefix {xs ys : List (Nat × Bool)} (hp : xs <+: ys) (h : evR n ov lv ys s = some t) : evR n ov lv xs s ≠ none := by
 obtain ⟨r, rfl⟩ := hp
 intro hn
 rw [evR_app, hn] at h
 cases h
theorem evS_in {b : Nat} {op sn : List Nat} (hb : b < n) (h1 : ∀ a ∈ op, ov a b = true) (h2 : lv b = op.length) (h3 : b ∉ sn) : evS n ov lv (op, sn) (b, true) = some (op ++ [b], sn ++ [b]) := by
 unfold evS
 rw [if_pos hb, if_pos rfl, if_pos ⟨h1, h2, h3⟩]
theorem evS_out {b : Nat} {op sn : List Nat} (hb : b < n) : evS n ov lv (op ++ [b], sn) (b, false) = some (op, sn) := by
 unfold evS
 rw [if_pos hb, if_neg ZS, if_pos ZS]
 simp
end
def lvF (V : List (Option Nat)) (b : Nat) : Nat := (fnO V b).getD 0
noncomputable def ovF (O : List Nat) (L : List (Option Nat)) (a b : Nat) : Bool := overB O L (a : Int) (b : Int)
section
variable {n : Nat} {O : List Nat} {P : Nat → List Nat} {L V : List (Option Nat)}
theorem ovF_anc {a b : Nat} (ha : a ∈ O) (hb : b ∈ O) (h : Anc (fnO L) a b) : ovF O L a b = true := by
 unfold ovF overB
 rw [inO_nat, inO_nat, decide_eq_true ha, decide_eq_true hb]
 simpa using h
theorem pre_self {K : Nat → List Nat} : ∀ {f b : Nat}, b ∈ pre K f b
 | 0, b => by simp [pre]
 | f + 1, b => by simp [pre]
theorem kid_anc {b j : Nat} (hj : j ∈ kidsOf n L b) : Anc (fnO L) b j := (anc_up rfl).2 (.inr ⟨b, (mem_kidsOf.1 hj).2, .refl⟩)
theorem evT_run (g : GrOk n O P) (t : NearOk n O P L) (l : LvOk (· ∈ O) (fnO L) (fnO V)) : ∀ (f b k : Nat) (op sn : List Nat), b ∈ O → fnO V b = some k → op.length = k → (∀ a ∈ op, a ∈ O ∧ Anc (fnO L) a b) → (∀ x ∈ pre (kidsOf n L) f b, x ∉ sn) →
 evR n (ovF O L) (lvF V) (evT (kidsOf n L) f b) (op, sn) = some (op, sn ++ pre (kidsOf n L) f b)
 | 0, b, k, op, sn, hb, hk, hl, ha, hs => by
  have h1 := evS_in (n := n) (ov := ovF O L) (lv := lvF V) (sn := sn) (g.lt b hb) (fun a h => ovF_anc (ha a h).1 hb (ha a h).2) (by unfold lvF; rw [hk, hl]; rfl) (hs b pre_self)
  rw [evT, evR, h1]
  show (evS n (ovF O L) (lvF V) (op ++ [b], sn ++ [b]) (b, false)).bind _ = _
  rw [evS_out (g.lt b hb)]
  rfl
 | f + 1, b, k, op, sn, hb, hk, hl, ha, hs => by
  have h1 := evS_in (n := n) (ov := ovF O L) (lv := lvF V) (sn := sn) (g.lt b hb) (fun a h => ovF_anc (ha a h).1 hb (ha a h).2) (by unfold lvF; rw [hk, hl]; rfl) (hs b pre_self)
  have hnd := pre_nodup t (f + 1) b
  have hkids : ∀ (ks sn' : List Nat), (∀ j ∈ ks, j ∈ kidsOf n L b) → (ks.flatMap (pre (kidsOf n L) f)).Nodup → (∀ j ∈ ks, ∀ x ∈ pre (kidsOf n L) f j, x ∉ sn') →
   evR n (ovF O L) (lvF V) (ks.flatMap (evT (kidsOf n L) f)) (op ++ [b], sn') = some (op ++ [b], sn' ++ ks.flatMap (pre (kidsOf n L) f)) := by
   intro ks
   induction ks with
   | nil => intro sn' _ _ _; simp [evR]
   | cons j ks ih =>
    intro sn' hj hn hf
    obtain ⟨e1, e2, -⟩ := kid_lv t l hk (hj j (List.mem_cons_self ..))
    have hja := kid_anc (hj j (List.mem_cons_self ..))
    rw [List.flatMap_cons] at hn
    have hn2 := List.nodup_append.1 hn
    have h2 := evT_run g t l f j (k + 1) (op ++ [b]) sn' e2 e1 (by simp [hl]) (fun a h => by
     rcases List.mem_append.1 h with h | h
     · exact ⟨(ha a h).1, Anc.trans (ha a h).2 hja⟩
     · rw [List.mem_singleton] at h
       rw [h]
       exact ⟨hb, hja⟩) (hf j (List.mem_cons_self ..))
    rw [List.flatMap_cons, evR_app, h2]
    show evR n (ovF O L) (lvF V) (ks.flatMap (evT (kidsOf n L) f)) (op ++ [b], sn' ++ pre (kidsOf n L) f j) = _
    rw [ih (sn' ++ pre (kidsOf n L) f j) (fun i hi => hj i (List.mem_cons_of_mem _ hi)) hn2.2.1 (fun i hi x hx h => by
     rcases List.mem_append.1 h with h | h
     · exact hf i (List.mem_cons_of_mem _ hi) x hx h
     · exact hn2.2.2 x h x (List.mem_flatMap.2 ⟨i, hi, hx⟩) rfl), List.flatMap_cons, List.append_assoc]
  rw [evT, evR, h1]
  show evR n (ovF O L) (lvF V) ((kidsOf n L b).flatMap (evT (kidsOf n L) f) ++ [(b, false)]) (op ++ [b], sn ++ [b]) = _
  have hnd2 : (b :: (kidsOf n L b).flatMap (pre (kidsOf n L) f)).Nodup := hnd
  rw [List.nodup_cons] at hnd2
  rw [evR_snoc (hkids (kidsOf n L b) (sn ++ [b]) (fun _ h => h) hnd2.2 (fun j hj x hx h => by
   rcases List.mem_append.1 h with h | h
   · exact hs x (by rw [pre]; exact List.mem_cons_of_mem _ (List.mem_flatMap.2 ⟨j, hj, hx⟩)) h
   · rw [List.mem_singleton] at h
     subst h
     exact hnd2.1 (List.mem_flatMap.2 ⟨j, hj, hx⟩))), evS_out (g.lt b hb), pre, List.append_assoc]
  rfl
theorem pre_kid (t : NearOk n O P L) (l : LvOk (· ∈ O) (fnO L) (fnO V)) {y j ky : Nat} (hy : fnO V y = some ky) (hj : j ∈ kidsOf n L y) : ∀ {f b kb : Nat}, fnO V b = some kb → y ∈ pre (kidsOf n L) f b → ky < kb + f → j ∈ pre (kidsOf n L) f b
 | 0, b, kb, hb, h, hlt => by
  rw [pre, List.mem_singleton] at h
  subst h
  rw [hy] at hb
  cases hb
  omega
 | f + 1, b, kb, hb, h, hlt => by
  rw [pre, List.mem_cons, List.mem_flatMap] at h ⊢
  rcases h with rfl | ⟨i, hi, h⟩
  · exact .inr ⟨j, hj, pre_self⟩
  · exact .inr ⟨i, hi, pre_kid t l hy hj (kid_lv t l hb hi).1 h ZO⟩
theorem pre_all (g : GrOk n O P) (t : NearOk n O P L) (l : LvOk (· ∈ O) (fnO L) (fnO V)) {f : Nat} : ∀ (k x : Nat), x ∈ O → fnO V x = some k → k ≤ f → x ∈ pre (kidsOf n L) f 0
 | k, x, hx, hk, hf => by
  by_cases h0 : x = 0
  · subst h0
    exact pre_self
  · obtain ⟨p, i, h1, h2, h3⟩ := l.up h0 hk
    have hp : p ∈ O := l.iff.1 (by rw [h2]; simp)
    have hm : x ∈ kidsOf n L p := mem_kidsOf.2 ⟨g.lt x hx, by rw [fnO_ne h0]; exact h1⟩
    exact pre_kid t l h2 hm l.zero (pre_all g t l i p hp h2 ZO) ZO
 termination_by k => k
theorem pre_in (t : NearOk n O P L) (l : LvOk (· ∈ O) (fnO L) (fnO V)) : ∀ {f b k x : Nat}, b ∈ O → fnO V b = some k → x ∈ pre (kidsOf n L) f b → x ∈ O
 | 0, b, k, x, hb, hk, h => by
  rw [pre, List.mem_singleton] at h
  rw [h]; exact hb
 | f + 1, b, k, x, hb, hk, h => by
  rw [pre, List.mem_cons, List.mem_flatMap] at h
  rcases h with rfl | ⟨i, hi, h⟩
  · exact hb
  · obtain ⟨e1, e2, -⟩ := kid_lv t l hk hi
    exact pre_in t l e2 e1 h
theorem steps_run (g : GrOk n O P) (t : NearOk n O P L) (l : LvOk (· ∈ O) (fnO L) (fnO V)) : evR n (ovF O L) (lvF V) (evT (kidsOf n L) n 0) ([], []) = some ([], pre (kidsOf n L) n 0) ∧ ∀ x, x ∈ pre (kidsOf n L) n 0 ↔ x ∈ O := by
 have h0 : 0 ∈ O := l.iff.1 (by rw [l.zero]; simp)
 refine ⟨by simpa using evT_run g t l n 0 0 [] [] h0 l.zero rfl (fun _ h => by cases h) (fun _ _ h => by cases h), fun x => ⟨pre_in t l h0 l.zero, fun hx => ?_⟩⟩
 cases hv : fnO V x with
 | none => exact absurd hv (l.iff.2 hx)
 | some k => exact pre_all g t l k x hx hv (Nat.le_of_lt (lv_lt g t l hv))
end
end Go.Proofs.YtjdkcichkpolgaaGreatDoor
