/- The plain law of what stands above what: of each block the nearest one above it, moved up till nothing changes. No program's code in sight. The plain law of the tree of what stands above what: levels, the nearest one, kids, fronts. No program's code in sight. -/
import Derived.Test.YtjijlmddalbkbaaGreatDoorData
namespace Go.Proofs.YtjijlmddalbkbaaGreatDoor

/-- x is b, or above it, by the nearest ones N. -/
inductive Anc (N : Nat → Option Nat) (x : Nat) : Nat → Prop
  | refl : Anc N x x
  | up {b p : Nat} : b ≠ 0 → N b = some p → Anc N x p → Anc N x b
/-- a way from block 0 to b comes not to d. -/
inductive Avoid (Pr : Nat → Nat → Prop) (d : Nat) : Nat → Prop
  | start : d ≠ 0 → Avoid Pr d 0
  | step {a b : Nat} : Avoid Pr d a → Pr a b → b ≠ d → Avoid Pr d b
/-- a graph whose reached blocks have places, each behind one that leads to it. -/
structure GOk (R : Nat → Prop) (pl : Nat → Nat) (Pr : Nat → Nat → Prop) : Prop where
  r0 : R 0
  at0 : pl 0 = 0
  inj : ∀ {a b}, R a → R b → pl a = pl b → a = b
  clo : ∀ {a b}, R a → Pr a b → R b
  fwd : ∀ {b}, R b → b ≠ 0 → ∃ a, R a ∧ Pr a b ∧ pl a < pl b
structure TOk (R : Nat → Prop) (pl : Nat → Nat) (N : Nat → Option Nat) : Prop where
  zero : N 0 ≠ none
  up : ∀ {b p}, b ≠ 0 → N b = some p → R b ∧ R p ∧ pl p < pl b ∧ N p ≠ none
section
variable {R : Nat → Prop} {pl : Nat → Nat} {Pr : Nat → Nat → Prop} {N N' : Nat → Option Nat} {a b c d j p u v x y : Nat}
theorem Anc.trans (h : Anc N x y) (h2 : Anc N y b) : Anc N x b := by
  induction h2 with
  | refl => exact h
  | up h0 hN _ ih => exact .up h0 hN ih
theorem Anc.inv (h : Anc N x b) : x = b ∨ b ≠ 0 ∧ ∃ p, N b = some p ∧ Anc N x p := by
  cases h with
  | refl => exact .inl rfl
  | up h0 hN h => exact .inr ⟨h0, _, hN, h⟩
theorem Anc.of0 (h : Anc N x 0) : x = 0 := by
  rcases h.inv with h | ⟨h, -⟩
  · exact h
  · exact absurd rfl h
theorem TOk.rr (g : GOk R pl Pr) (t : TOk R pl N) (h : N b ≠ none) : R b := by
  by_cases h0 : b = 0
  · subst h0; exact g.r0
  · cases hN : N b with
    | none => exact absurd hN h
    | some p => exact (t.up h0 hN).1
/-- what is above comes sooner. -/
theorem TOk.anc (t : TOk R pl N) (h : Anc N x b) : (x = b ∨ pl x < pl b) ∧ (N b ≠ none → N x ≠ none) := by
  induction h with
  | refl => exact ⟨.inl rfl, id⟩
  | up h0 hN _ ih =>
    have := t.up h0 hN
    refine ⟨.inr ?_, fun _ => ih.2 this.2.2.2⟩
    rcases ih.1 with e | e
    · rw [e]; exact this.2.2.1
    · omega
theorem TOk.le (t : TOk R pl N) (h : Anc N x b) : pl x ≤ pl b := by
  rcases (t.anc h).1 with e | e
  · rw [e]; exact Nat.le_refl _
  · omega
theorem TOk.lin (t : TOk R pl N) (h : Anc N x b) (h2 : Anc N y b) (hl : pl x ≤ pl y) : Anc N x y := by
  induction h2 with
  | refl => exact h
  | @up b p h0 hN h2 ih =>
    rcases h.inv with e | ⟨_, q, hq, h3⟩
    · subst e
      have := t.le h2
      have := (t.up h0 hN).2.2.1
      omega
    · rw [hN] at hq
      obtain rfl := Option.some.inj hq
      exact ih h3
theorem TOk.root (t : TOk R pl N) : ∀ (n b : Nat), pl b ≤ n → N b ≠ none → Anc N 0 b
  | n, b, hn, hb => by
    by_cases h0 : b = 0
    · subst h0; exact .refl
    · cases hN : N b with
      | none => exact absurd hN hb
      | some p =>
        have := t.up h0 hN
        match n, hn with
        | 0, hn => omega
        | n + 1, hn => exact .up h0 hN (TOk.root t n p (by omega) this.2.2.2)
/-- one step of the climb of two blocks to where they meet. -/
theorem TOk.climb (t : TOk R pl N) (hl : pl b < pl a) (h0 : a ≠ 0) (hN : N a = some p) : (Anc N x p ∧ Anc N x b) ↔ (Anc N x a ∧ Anc N x b) := by
  constructor
  · exact fun h => ⟨.up h0 hN h.1, h.2⟩
  · rintro ⟨h1, h2⟩
    refine ⟨?_, h2⟩
    rcases h1.inv with e | ⟨_, q, hq, h3⟩
    · subst e
      have := t.le h2
      omega
    · rw [hN] at hq
      obtain rfl := Option.some.inj hq
      exact h3
/-- v is where all that lead to b, and are in the tree, meet. -/
def Meets (R : Nat → Prop) (Pr : Nat → Nat → Prop) (N : Nat → Option Nat) (b v : Nat) : Prop := ∀ x, Anc N x v ↔ ∀ a, R a → Pr a b → N a ≠ none → Anc N x a
/-- in a round, ahead of the block at place j. -/
structure QInv (R : Nat → Prop) (pl : Nat → Nat) (Pr : Nat → Nat → Prop) (N : Nat → Option Nat) (j : Nat) : Prop where
  tok : TOk R pl N
  done : ∀ {b}, R b → pl b < j → N b ≠ none
  all : (∀ {b}, R b → N b ≠ none) ∨ ∀ {b}, N b ≠ none → pl b < j
  F : ∀ {b p a x}, b ≠ 0 → N b = some p → R a → Pr a b → pl a < pl b → (pl b < j ∨ j ≤ pl x) → Anc N x p → Anc N x a
  G : ∀ {b p x}, b ≠ 0 → N b = some p → (∀ a, R a → Pr a b → N a ≠ none → Anc N x a) → Anc N x p
  S : ∀ {b d}, N b ≠ none → ¬ Avoid Pr d b → Anc N d b
theorem QInv.start (g : GOk R pl Pr) (hz : N 0 = some 0) (hn : ∀ b, b ≠ 0 → N b = none) : QInv R pl Pr N 1 := by
  have hno : ∀ {b p : Nat}, b ≠ 0 → N b = some p → False := fun h0 h => by rw [hn _ h0] at h; cases h
  refine ⟨⟨by rw [hz]; simp, fun h0 h => (hno h0 h).elim⟩, fun {b} hr hb => ?_, .inr fun {b} hb => ?_, fun h0 h => (hno h0 h).elim, fun h0 h => (hno h0 h).elim, fun {b d} hb hd => ?_⟩
  · obtain rfl : b = 0 := g.inj hr g.r0 (by rw [g.at0]; omega)
    rw [hz]; simp
  · by_cases h0 : b = 0
    · subst h0; rw [g.at0]; omega
    · exact absurd (hn b h0) hb
  · by_cases h0 : b = 0
    · subst h0
      by_cases e : d = 0
      · subst e; exact .refl
      · exact absurd (.start e) hd
    · exact absurd (hn b h0) hb
theorem QInv.next (h : QInv R pl Pr N j) (hj : ∀ b, R b → pl b < j) : QInv R pl Pr N 1 :=
  ⟨h.tok, fun hr _ => h.done hr (hj _ hr), .inl fun hr => h.done hr (hj _ hr), fun h0 hN hr hp hl _ ha => h.F h0 hN hr hp hl (.inl (hj _ (h.tok.up h0 hN).1)) ha, h.G, h.S⟩
/-- the one nearest by now is where they meet: nothing changes. -/
theorem QInv.keep (g : GOk R pl Pr) (h : QInv R pl Pr N j) (hb : R b) (hj : pl b = j) (h0 : b ≠ 0) (hN : N b = some v) (hm : Meets R Pr N b v) : QInv R pl Pr N (j + 1) := by
  have e : ∀ {c}, R c → pl c < j + 1 → ¬ pl c < j → c = b := fun hr h1 h2 => g.inj hr hb (by omega)
  refine ⟨h.tok, fun {c} hr hl => ?_, ?_, fun {c q a x} hc hq hr hp hl hx ha => ?_, h.G, h.S⟩
  · by_cases h1 : pl c < j
    · exact h.done hr h1
    · rw [e hr hl h1, hN]; simp
  · rcases h.all with h1 | h1
    · exact .inl h1
    · exact .inr fun hc => by have := h1 hc; omega
  · by_cases hcb : c = b
    · subst hcb
      rw [hN] at hq
      obtain rfl := Option.some.inj hq
      exact (hm x).1 ha a hr hp (h.done hr (by omega))
    · refine h.F hc hq hr hp hl ?_ ha
      rcases hx with hx | hx
      · by_cases h1 : pl c < j
        · exact .inl h1
        · exact absurd (e (h.tok.up hc hq).1 hx h1) hcb
      · exact .inr (by omega)
structure Move (R : Nat → Prop) (pl : Nat → Nat) (Pr : Nat → Nat → Prop) (N N' : Nat → Option Nat) (j b v : Nat) : Prop where
  h : QInv R pl Pr N j
  hb : R b
  hj : pl b = j
  h0 : b ≠ 0
  hm : Meets R Pr N b v
  hv : N v ≠ none
  hvl : pl v < pl b
  hb' : N' b = some v
  hc' : ∀ c, c ≠ b → N' c = N c
theorem Move.higher (M : Move R pl Pr N N' j b v) (hN : N b = some u) : Anc N v u := M.h.G M.h0 hN ((M.hm v).1 .refl)
theorem Move.U1 (M : Move R pl Pr N N' j b v) (ha : Anc N' x c) : Anc N x c ∨ N b = none ∧ c = b ∧ Anc N x v := by
  obtain ⟨h, hb, hj, h0, hm, hv, hvl, hb', hc'⟩ := id M
  induction ha with
  | refl => exact .inl .refl
  | @up c q hc hq _ ih =>
    by_cases e : c = b
    · subst e
      rw [hb'] at hq
      obtain rfl := Option.some.inj hq
      rcases ih with ih | ⟨_, e, _⟩
      · cases hN : N c with
        | none => exact .inr ⟨rfl, rfl, ih⟩
        | some u => exact .inl (.up h0 hN (ih.trans (Move.higher M hN)))
      · subst e; omega
    · rw [hc' c e] at hq
      rcases ih with ih | ⟨hn, e2, _⟩
      · exact .inl (.up hc hq ih)
      · subst e2
        exact absurd hn (h.tok.up hc hq).2.2.2
theorem Move.U1' (M : Move R pl Pr N N' j b v) (ha : Anc N' x c) (hc : N c ≠ none) : Anc N x c := by
  obtain ⟨h, hb, hj, h0, hm, hv, hvl, hb', hc'⟩ := id M
  rcases Move.U1 M ha with e | ⟨e, rfl, _⟩
  · exact e
  · exact absurd e hc
theorem Move.U2a (M : Move R pl Pr N N' j b v) (ha : Anc N x c) (hx : pl b ≤ pl x) : Anc N' x c := by
  obtain ⟨h, hb, hj, h0, hm, hv, hvl, hb', hc'⟩ := id M
  induction ha with
  | refl => exact .refl
  | @up c q hc hq ha ih =>
    by_cases e : c = b
    · subst e
      have := h.tok.le ha
      have := (h.tok.up hc hq).2.2.1
      omega
    · exact .up hc (by rw [hc' c e]; exact hq) ih
theorem Move.U2b (M : Move R pl Pr N N' j b v) (ha : Anc N x c) (hx : ¬ Anc N b c) : Anc N' x c := by
  obtain ⟨h, hb, hj, h0, hm, hv, hvl, hb', hc'⟩ := id M
  induction ha with
  | refl => exact .refl
  | @up c q hc hq ha ih =>
    by_cases e : c = b
    · subst e
      exact absurd .refl hx
    · exact .up hc (by rw [hc' c e]; exact hq) (ih fun h => hx (.up hc hq h))
theorem Move.U2c (M : Move R pl Pr N N' j b v) (hl : pl c < pl b) (hc : N c ≠ none) : Anc N' x c ↔ Anc N x c :=
  ⟨fun ha => Move.U1' M ha hc, fun ha => Move.U2b M ha fun hx => by have := M.h.tok.le hx; omega⟩
theorem Move.tok' (g : GOk R pl Pr) (M : Move R pl Pr N N' j b v) : TOk R pl N' := by
  obtain ⟨h, hb, hj, h0, hm, hv, hvl, hb', hc'⟩ := id M
  have hne : ∀ c, N c ≠ none → N' c ≠ none := fun c hc => by
    by_cases e : c = b
    · subst e; rw [hb']; simp
    · rw [hc' c e]; exact hc
  refine ⟨hne 0 h.tok.zero, fun {c p} hc hq => ?_⟩
  by_cases e : c = b
  · subst e
    rw [hb'] at hq
    obtain rfl := Option.some.inj hq
    exact ⟨hb, h.tok.rr g hv, hvl, hne _ hv⟩
  · rw [hc' c e] at hq
    have := h.tok.up hc hq
    exact ⟨this.1, this.2.1, this.2.2.1, hne _ this.2.2.2⟩
/-- to b, and on by blocks not sooner: what a way to b comes not to, a way to c comes not to. -/
theorem Move.far (g : GOk R pl Pr) (M : Move R pl Pr N N' j b v) (hd : pl d < pl b) (hA : Avoid Pr d b) : ∀ (n c : Nat), pl c ≤ n → N c ≠ none → Anc N b c → Avoid Pr d c
  | n, c, hn, hc, ha => by
    rcases ha.inv with e | ⟨hc0, q, hq, ha'⟩
    · subst e; exact hA
    · have hj := M.hj
      have hu := M.h.tok.up hc0 hq
      have hbq := M.h.tok.le ha'
      have hall : ∀ {b}, R b → N b ≠ none := by
        rcases M.h.all with h1 | h1
        · exact h1
        · have := h1 hc; omega
      obtain ⟨a, hr, hp, hl⟩ := g.fwd hu.1 hc0
      have hF := M.h.F hc0 hq hr hp hl (.inr (by omega)) ha'
      have hcd : c ≠ d := fun e => by subst e; omega
      match n, hn with
      | 0, hn => omega
      | n + 1, hn => exact .step (Move.far g M hd hA n a (by omega) (hall hr) hF) hp hcd
theorem Move.move (g : GOk R pl Pr) (M : Move R pl Pr N N' j b v) : QInv R pl Pr N' (j + 1) := by
  obtain ⟨h, hb, hj, h0, hm, hv, hvl, hb', hc'⟩ := id M
  have hne : ∀ {c}, N c ≠ none → N' c ≠ none := fun {c} hc => by
    by_cases e : c = b
    · subst e; rw [hb']; simp
    · rw [hc' c e]; exact hc
  have e1 : ∀ {c}, R c → pl c < j + 1 → ¬ pl c < j → c = b := fun hr h1 h2 => g.inj hr hb (by omega)
  have U1' : ∀ {x c}, Anc N' x c → N c ≠ none → Anc N x c := fun ha hc => Move.U1' M ha hc
  have U2a : ∀ {x c}, Anc N x c → pl b ≤ pl x → Anc N' x c := fun ha hx => Move.U2a M ha hx
  have U2b : ∀ {x c}, Anc N x c → ¬ Anc N b c → Anc N' x c := fun ha hx => Move.U2b M ha hx
  have U2c : ∀ {x c}, pl c < pl b → N c ≠ none → (Anc N' x c ↔ Anc N x c) := fun hl hc => Move.U2c M hl hc
  have tok' := Move.tok' g M
  have later : ∀ {c}, c ≠ b → N c ≠ none → ¬ pl c < j → pl b < pl c ∧ ∀ {b}, R b → N b ≠ none := fun {c} hc hn hl => by
    have hr := h.tok.rr g hn
    have : pl c ≠ pl b := fun e => hc (g.inj hr hb e)
    refine ⟨by omega, ?_⟩
    rcases h.all with h1 | h1
    · exact h1
    · exact absurd (h1 hn) hl
  have Sb : ∀ {d}, ¬ Avoid Pr d b → Anc N' d b := fun {d} hd => by
    by_cases e : d = b
    · subst e; exact .refl
    · refine .up h0 hb' ((U2c hvl hv).2 ((hm d).2 fun a hr hp hn => h.S hn fun hA => hd (.step hA hp (fun e2 => e e2.symm))))
  refine ⟨tok', fun {c} hr hl => ?_, ?_, fun {c q a x} hc hq hr hp hl hx ha => ?_, fun {c q x} hc hq hx => ?_, fun {c d} hc hd => ?_⟩
  · by_cases h1 : pl c < j
    · exact hne (h.done hr h1)
    · rw [e1 hr hl h1, hb']; simp
  · rcases h.all with h1 | h1
    · exact .inl fun hr => hne (h1 hr)
    · refine .inr fun {c} hc => ?_
      by_cases e : c = b
      · subst e; omega
      · rw [hc' c e] at hc
        have := h1 hc
        omega
  · by_cases hcb : c = b
    · subst hcb
      rw [hb'] at hq
      obtain rfl := Option.some.inj hq
      have hna := h.done hr (show pl a < j by omega)
      exact (U2c hl hna).2 ((hm x).1 ((U2c hvl hv).1 ha) a hr hp hna)
    · rw [hc' c hcb] at hq
      have hu := h.tok.up hc hq
      by_cases h1 : pl c < j
      · have hna := h.done hr (show pl a < j by omega)
        exact (U2c (by omega) hna).2 (h.F hc hq hr hp hl (.inl h1) ((U2c (by omega) hu.2.2.2).1 ha))
      · obtain ⟨h2, h3⟩ := later hcb (by rw [hq]; simp) h1
        have hjx : j + 1 ≤ pl x := by
          rcases hx with hx | hx
          · exact absurd (e1 hu.1 hx h1) hcb
          · exact hx
        exact U2a (h.F hc hq hr hp hl (.inr (by omega)) (U1' ha hu.2.2.2)) (by omega)
  · by_cases hcb : c = b
    · subst hcb
      rw [hb'] at hq
      obtain rfl := Option.some.inj hq
      exact (U2c hvl hv).2 ((hm x).2 fun a hr hp hn => U1' (hx a hr hp (hne hn)) hn)
    · rw [hc' c hcb] at hq
      have hu := h.tok.up hc hq
      have hxq : Anc N x q := h.G hc hq fun a hr hp hn => U1' (hx a hr hp (hne hn)) hn
      by_cases hbq : Anc N b q
      · by_cases hxb : pl b ≤ pl x
        · exact U2a hxq hxb
        · have hle := h.tok.le hbq
          obtain ⟨h2, h3⟩ := later hcb (by rw [hq]; simp) (by omega)
          obtain ⟨a, hr, hp, hl⟩ := g.fwd hu.1 hc
          have hba := U2a (h.F hc hq hr hp hl (.inr (by omega)) hbq) (Nat.le_refl _)
          have hxa := hx a hr hp (hne (h3 hr))
          exact (tok'.lin hxa hba (by omega)).trans (U2a hbq (Nat.le_refl _))
      · exact U2b hxq hbq
  · by_cases hcb : c = b
    · subst hcb; exact Sb hd
    · rw [hc' c hcb] at hc
      have hdc := h.S hc hd
      by_cases hbc : Anc N b c
      · by_cases hxb : pl b ≤ pl d
        · exact U2a hdc hxb
        · exact (Sb fun hA => hd (Move.far g M (by omega) hA _ c (Nat.le_refl _) hc hbc)).trans (U2a hbc (Nat.le_refl _))
      · exact U2b hdc hbc
/-- where nothing changes any more, what is above is what no way goes without. -/
theorem QInv.fin (g : GOk R pl Pr) (h : QInv R pl Pr N j) (hj : ∀ b, R b → pl b < j) (hm : ∀ b v, R b → b ≠ 0 → N b = some v → Meets R Pr N b v) : R b → (Anc N d b ↔ ¬ Avoid Pr d b) := by
  intro hb
  refine ⟨fun ha hA => ?_, fun hd => h.S (h.done hb (hj b hb)) hd⟩
  have key : ∀ {c}, Avoid Pr d c → R c ∧ ¬ Anc N d c := by
    intro c hA
    induction hA with
    | start h0 => exact ⟨g.r0, fun h => h0 h.of0⟩
    | @step a c _ hp hc ih =>
      have hr := g.clo ih.1 hp
      refine ⟨hr, fun h2 => ?_⟩
      rcases h2.inv with e | ⟨hc0, q, hq, h3⟩
      · exact hc e.symm
      · exact ih.2 ((hm c q hr hc0 hq d).1 h3 a ih.1 hp (h.done ih.1 (hj a ih.1)))
  exact (key hA).2 ha
end
end Go.Proofs.YtjijlmddalbkbaaGreatDoor
namespace Go.Proofs.YtjijlmddalbkbaaGreatDoor

/-- how far below the root. -/
structure LvOk (R : Nat → Prop) (N V : Nat → Option Nat) : Prop where
  zero : V 0 = some 0
  up : ∀ {b k}, b ≠ 0 → V b = some k → ∃ p i, N b = some p ∧ V p = some i ∧ k = i + 1
  iff : ∀ {b}, V b ≠ none ↔ R b
section
variable {R : Nat → Prop} {pl : Nat → Nat} {N V : Nat → Option Nat} {a b c d j k m p u v x y n : Nat}
theorem LvOk.up' (l : LvOk R N V) (t : TOk R pl N) (h0 : b ≠ 0) (hN : N b = some p) : ∃ i, V p = some i ∧ V b = some (i + 1) := by
  cases hb : V b with
  | none => exact absurd hb (l.iff.2 (t.up h0 hN).1)
  | some k =>
    obtain ⟨q, i, h1, h2, rfl⟩ := l.up h0 hb
    rw [hN] at h1
    obtain rfl := Option.some.inj h1
    exact ⟨i, h2, rfl⟩
theorem Anc.lv (l : LvOk R N V) (t : TOk R pl N) (h : Anc N x b) : ∀ {k}, V b = some k → ∃ m, V x = some m ∧ (x = b ∨ m < k) := by
  induction h with
  | refl => exact fun hb => ⟨_, hb, .inl rfl⟩
  | @up b q h0 hN _ ih =>
    intro k hb
    obtain ⟨i, h1, h2⟩ := l.up' t h0 hN
    rw [hb] at h2
    obtain rfl := Option.some.inj h2
    obtain ⟨m, h3, h4⟩ := ih h1
    refine ⟨m, h3, .inr ?_⟩
    rcases h4 with rfl | h4
    · rw [h1] at h3
      obtain rfl := Option.some.inj h3
      omega
    · omega
/-- one step of the climb from b to the level of a. -/
theorem LvOk.step (ha : V a = some m) (hb : V b = some k) (hl : m < k) (h0 : b ≠ 0) (hN : N b = some p) : Anc N a b ↔ Anc N a p := by
  constructor
  · intro h
    rcases h.inv with e | ⟨_, q, hq, h3⟩
    · subst e
      rw [ha] at hb
      obtain rfl := Option.some.inj hb
      omega
    · rw [hN] at hq
      obtain rfl := Option.some.inj hq
      exact h3
  · exact fun h => .up h0 hN h
theorem LvOk.stop (l : LvOk R N V) (t : TOk R pl N) (ha : V a = some m) (hb : V b = some k) (hl : k ≤ m) : Anc N a b ↔ a = b := by
  constructor
  · intro h
    obtain ⟨m', h1, h2⟩ := h.lv l t hb
    rw [ha] at h1
    obtain rfl := Option.some.inj h1
    rcases h2 with e | h2
    · exact e
    · omega
  · rintro rfl
    exact .refl
/-- a level that isn't 0 is that of a block with one above. -/
theorem LvOk.pos (l : LvOk R N V) (hb : V b = some k) (hk : 0 < k) : b ≠ 0 := by
  rintro rfl
  rw [l.zero] at hb
  have := Option.some.inj hb
  omega
open Classical in
/-- how many are above. -/
noncomputable def aboveN (N : Nat → Option Nat) (b n : Nat) : Nat := ((List.range n).filter fun a => decide (a ≠ b ∧ Anc N a b)).length
theorem filter_one {p : Nat} : ∀ {n : Nat}, p < n → ∀ (f : Nat → Bool), f p = false → ((List.range n).filter fun a => f a || decide (a = p)).length = ((List.range n).filter f).length + 1
  | 0, hp, _, _ => by omega
  | n + 1, hp, f, hf => by
    rw [List.range_succ, List.filter_append, List.filter_append, List.length_append, List.length_append]
    by_cases e : p = n
    · subst e
      have : (List.range p).filter (fun a => f a || decide (a = p)) = (List.range p).filter f := by
        refine List.filter_congr fun a ha => ?_
        have : a ≠ p := by have := List.mem_range.1 ha; omega
        simp [this]
      rw [this]
      simp [hf]
    · rw [filter_one (by omega) f hf]
      have : n ≠ p := fun h => e h.symm
      cases hfn : f n <;> simp [this, hfn]
theorem aboveN_eq (t : TOk R pl N) (l : LvOk R N V) (hlt : ∀ b, R b → b < n) : ∀ (k b : Nat), V b = some k → aboveN N b n = k
  | 0, b, hb => by
    unfold aboveN
    rw [List.length_eq_zero_iff, List.filter_eq_nil_iff]
    intro a _ h
    simp only [decide_eq_true_eq] at h
    obtain ⟨m, _, h2⟩ := h.2.lv l t hb
    rcases h2 with e | e
    · exact h.1 e
    · omega
  | k + 1, b, hb => by
    have h0 := l.pos hb (by omega)
    obtain ⟨p, i, hN, h1, hk⟩ := l.up h0 hb
    obtain rfl : k = i := by omega
    have ih := aboveN_eq t l hlt k p h1
    have hu := t.up h0 hN
    unfold aboveN at ih ⊢
    rw [← ih, ← filter_one (hlt p hu.2.1) _ (by simp)]
    congr 1
    refine List.filter_congr fun a _ => ?_
    rw [Bool.eq_iff_iff]
    simp only [decide_eq_true_eq, Bool.or_eq_true]
    constructor
    · rintro ⟨e, h⟩
      rcases h.inv with e2 | ⟨_, q, hq, h3⟩
      · exact absurd e2 e
      · rw [hN] at hq
        obtain rfl := Option.some.inj hq
        by_cases e3 : a = p
        · exact .inr e3
        · exact .inl ⟨e3, h3⟩
    · rintro (⟨e, h⟩ | rfl)
      · exact ⟨fun e2 => by subst e2; have := t.le h; omega, .up h0 hN h⟩
      · exact ⟨fun e2 => by subst e2; omega, .up h0 hN .refl⟩
end
end Go.Proofs.YtjijlmddalbkbaaGreatDoor
