/- Above by the table is above in the tree. No program is walked here. The walk of ref11.Near: the nearest above a block by the table. The tree's blocks in order: each, and then what is below it. No program is walked here. The tree's blocks in order: how many they are, and how deep. No program is walked here. The walks of dom's Level and Kids. The walks of dom's below and Order: the tree's blocks, each and then what is below it. The walk of ref11.Order: the tree's blocks from one on, by the table. The law of the tree, in plain words: the level is how many are above, the kids are those whose nearest one it is. No program is walked here. -/
import Derived.Test.YtcjodjmmojbigaaGreatDoorLiveT
import Derived.Test.YtcjodjmmojbigaaGreatDoorTreeVC
import Derived.Test.YtcjodjmmojbigaaGreatDoorSlc
import Derived.Laws.AppendOwnNone
namespace Go.Proofs.YtcjodjmmojbigaaGreatDoor
open Go.RowKit
set_option maxRecDepth 100000

theorem tab_anc {F : PFunc} {L : List (Option Nat)} (h : typedP F = true) (t : NearOk F.blocks.length (OR F) (PR F) L) {a p : Nat} : tabP F a p ↔ p ∈ OR F ∧ Anc (fnO L) a p := by
  unfold tabP
  constructor
  · rintro ⟨_, h2, h3⟩
    refine ⟨h2, ?_⟩
    rcases h3 with rfl | h3
    · exact .refl
    · exact (t.dom h2).2 h3
  · rintro ⟨h2, h3⟩
    exact ⟨t.tok.rr (gr_of h).gok ((t.tok.anc h3).2 (t.all h2)), h2, .inr ((t.dom h2).1 h3)⟩
end Go.Proofs.YtcjodjmmojbigaaGreatDoor
namespace Go.Proofs.YtcjodjmmojbigaaGreatDoor
open Go.RowKit
set_option maxRecDepth 100000

/-- is a the nearest above b, by the table? -/
def nrP (F : PFunc) (a b : Nat) : Prop := a ≠ b ∧ tabP F a b ∧ ∀ x, x < F.blocks.length → x ≠ b → tabP F x b → tabP F x a
open Classical in
noncomputable def okB (F : PFunc) (a b i : Nat) : Bool := decide (∀ x, x < i → x ≠ b → tabP F x b → tabP F x a)
open Classical in
theorem okB_iff {F : PFunc} {a b i : Nat} : okB F a b i = true ↔ ∀ x, x < i → x ≠ b → tabP F x b → tabP F x a := by unfold okB; rw [decide_eq_true_eq]
theorem okB_zero {F : PFunc} {a b : Nat} : okB F a b 0 = true := okB_iff.2 fun _ h => absurd h (Nat.not_lt_zero _)
theorem okB_keep {F : PFunc} {a b i : Nat} (h : i = b ∨ tabB F i b = false ∨ tabB F i a = true) : okB F a b (i + 1) = okB F a b i := by
  rw [Bool.eq_iff_iff, okB_iff, okB_iff]
  constructor
  · intro h1 x hx
    exact h1 x (by omega)
  · intro h1 x hx h2 h3
    rcases Nat.lt_succ_iff_lt_or_eq.1 hx with hl | rfl
    · exact h1 x hl h2 h3
    · rcases h with h | h | h
      · exact absurd h h2
      · rw [tabB_iff.2 h3] at h; cases h
      · exact tabB_iff.1 h
theorem okB_fail {F : PFunc} {a b i : Nat} (h1 : i ≠ b) (h2 : tabB F i b = true) (h3 : tabB F i a = false) : okB F a b (i + 1) = false := by
  cases h : okB F a b (i + 1)
  · rfl
  · have := tabB_iff.2 (okB_iff.1 h i (Nat.lt_succ_self _) h1 (tabB_iff.1 h2))
    rw [h3] at this
    cases this
/-- what the table says of the nearest above. -/
def nearR (F : PFunc) (b : Nat) (z : Int) : Prop := (∃ a, a < F.blocks.length ∧ z = (a : Int) ∧ nrP F a b) ∨ (z = -1 ∧ ∀ a, a < F.blocks.length → ¬ nrP F a b)
set_option maxHeartbeats 4000000 in
theorem refNear_calls {w : World} {F : PFunc} {b0 c : Nat} (n2 : F.blocks.length ≤ 64) (hb0 : b0 < w.heap.size)
    (hT : ∀ a, a < F.blocks.length → ∃ b1, w.cell? ⟨b0, a, none⟩ = some (.slice (some ⟨b1, 0, none⟩) F.blocks.length F.blocks.length) ∧ b1 < w.heap.size ∧ ∀ x, x < F.blocks.length → w.cell? ⟨b1, x, none⟩ = some (.bool (tabB F a x))) (b : Nat) (hb : b < F.blocks.length) :
    Calls Tryz.prog 14 #[.slice (some ⟨b0, 0, none⟩) F.blocks.length c, .int .i64 (b : Int)] w fun e w' => (∃ z, e = .returned (.int .i64 z) ∧ nearR F b z) ∧ w' = w := by
  have fb : (b : Int) < (F.blocks.length : Int) := by omega
  have HT := Lib.hid hT
  clear hT
  go_enter Tryz.func14, Tryz.ntmps14
  go_wp2
  go_loopw [10] (fun i wr => ∃ a : Nat, i = .int .i64 a ∧ a ≤ F.blocks.length ∧ Hid (∀ q, q < a → ¬ nrP F q b) ∧ wr = w) (fun i _ => F.blocks.length - (intOf i).toNat)
  case atStart => exact ⟨0, rfl, Nat.zero_le _, (fun q hq => absurd hq (Nat.not_lt_zero _)), rfl⟩
  case round => as_aux_lemma =>
    obtain ⟨a, rfl, ha, HP, rfl⟩ := hrel
    by_cases hal : a < F.blocks.length
    · have fa : (a : Int) < (F.blocks.length : Int) := by omega
      obtain ⟨ra, hra, hral, hrac⟩ := HT.out a hal
      have hca := hrac b hb
      have HN : ¬ nrP F a b → Hid (∀ q, q < a + 1 → ¬ nrP F q b) := fun hn q hq => by
        rcases Nat.lt_succ_iff_lt_or_eq.1 hq with h | h
        · exact HP.out q h
        · subst h; exact hn
      clear hrac
      by_cases hab : a = b
      · have HN' := HN fun h => h.1 hab
        have e0 : ((a : Int) == (b : Int)) = true := by rw [beq_iff_eq]; omega
        clear HN hab
        go_wp2
        go_roundw
        case rel => exact ⟨a + 1, by go_num, by omega, HN', trivial⟩
        case measure => simp [intOf]; omega
      have e0 : ((a : Int) == (b : Int)) = false := by rw [beq_eq_false_iff_ne]; omega
      cases ht : tabB F a b
      · have HN' := HN fun h => by rw [tabB_iff.2 h.2.1] at ht; cases ht
        rw [ht] at hca
        clear HN ht hab
        go_wp2
        go_roundw
        case rel => exact ⟨a + 1, by go_num, by omega, HN', trivial⟩
        case measure => simp [intOf]; omega
      have HK : okB F a b F.blocks.length = true ↔ nrP F a b := by
        rw [okB_iff]
        exact ⟨fun h => ⟨hab, tabB_iff.1 ht, h⟩, fun h => h.2.2⟩
      replace HK := Lib.hid HK
      replace HN := Lib.hid HN
      rw [ht] at hca
      clear ht hab
      go_wp2
      go_loopw [6, 28] (fun ok i wq => ∃ x : Nat, ok = .bool (okB F a b x) ∧ i = .int .i64 x ∧ x ≤ F.blocks.length ∧ wq = wr) (fun _ i _ => F.blocks.length - (intOf i).toNat)
      case atStart => exact ⟨0, by rw [okB_zero], rfl, Nat.zero_le _, rfl⟩
      case round => as_aux_lemma =>
        obtain ⟨x, rfl, rfl, hx, rfl⟩ := hrel
        by_cases hxl : x < F.blocks.length
        · have fx : (x : Int) < (F.blocks.length : Int) := by omega
          obtain ⟨rx, hrx, hrxl, hrxc⟩ := HT.out x hxl
          have hx1 := hrxc b hb
          have hx2 := hrxc a hal
          clear hrxc
          by_cases hxb : x = b
          · have hk := Lib.hid (okB_keep (F := F) (a := a) (.inl hxb))
            have e1 : ((x : Int) != (b : Int)) = false := by simp [hxb]
            clear hxb
            go_wp2
            go_roundw
            case rel => exact ⟨x + 1, by rw [hk.out], by go_num, by omega, trivial⟩
            case measure => simp [intOf]; omega
          have e1 : ((x : Int) != (b : Int)) = true := by rw [bne_iff_ne]; omega
          cases h1 : tabB F x b
          · have hk := Lib.hid (okB_keep (F := F) (a := a) (.inr (.inl h1)))
            rw [h1] at hx1
            clear h1 hxb
            go_wp2
            go_roundw
            case rel => exact ⟨x + 1, by rw [hk.out], by go_num, by omega, trivial⟩
            case measure => simp [intOf]; omega
          cases h2 : tabB F x a
          · have hk := Lib.hid (okB_fail hxb h1 h2)
            rw [h1] at hx1
            rw [h2] at hx2
            clear h1 h2 hxb
            go_wp2
            go_roundw
            case rel => exact ⟨x + 1, by rw [hk.out], by go_num, by omega, trivial⟩
            case measure => simp [intOf]; omega
          · have hk := Lib.hid (okB_keep (F := F) (a := a) (b := b) (.inr (.inr h2)))
            rw [h1] at hx1
            rw [h2] at hx2
            clear h1 h2 hxb
            go_wp2
            go_roundw
            case rel => exact ⟨x + 1, by rw [hk.out], by go_num, by omega, trivial⟩
            case measure => simp [intOf]; omega
        · obtain rfl : x = F.blocks.length := by omega
          cases hk : okB F a b F.blocks.length
          · have HN' := HN.out fun h => by rw [HK.out.2 h] at hk; cases hk
            clear hk
            go_wp2
            go_roundw
            case rel => exact ⟨a + 1, by go_num, by omega, HN', trivial⟩
            case measure => simp [intOf]; omega
          · have HY := Lib.hid (HK.out.1 hk)
            clear hk
            go_wp2
            go_ret
            exact ⟨⟨_, rfl, .inl ⟨a, hal, rfl, HY.out⟩⟩, rfl⟩
    · obtain rfl : a = F.blocks.length := by omega
      go_wp2
      go_ret
      exact ⟨⟨_, rfl, .inr ⟨rfl, HP.out⟩⟩, rfl⟩
/-- the table's nearest is the tree's. -/
theorem nearR_tree {F : PFunc} {L : List (Option Nat)} (h : typedP F = true) (t : NearOk F.blocks.length (OR F) (PR F) L) {b : Nat} {z : Int} (hz : nearR F b z) : z = encO (fnO (L.set 0 none) b) := by
  have hup := fun a => anc_up (y := a) (x := b) (L := L) rfl
  have hnot : ∀ q, fnO (L.set 0 none) b = some q → ¬ Anc (fnO L) b q := fun q hq => anc_not t rfl hq
  have hst : ∀ q, fnO (L.set 0 none) b = some q → b ∈ OR F ∧ q ∈ OR F := fun q hq => by
    have h0 : b ≠ 0 := fun e => by
      subst e
      exact hnot q hq (by
        by_cases hl : 0 < L.length
        · rw [fnO_set0 hl] at hq; cases hq
        · simp [fnO, List.getD, hl] at hq)
    rw [fnO_ne h0] at hq
    exact ⟨(t.tok.up h0 hq).1, (t.tok.up h0 hq).2.1⟩
  have hnr : ∀ a, nrP F a b ↔ fnO (L.set 0 none) b = some a := fun a => by
    constructor
    · rintro ⟨h1, h2, h3⟩
      rcases (hup a).1 ((tab_anc h t).1 h2).2 with e | ⟨q, hq, ha⟩
      · exact absurd e h1
      · have hs := hst q hq
        have hqb : q ≠ b := fun e => hnot q hq (by rw [e]; exact .refl)
        have hqa := (tab_anc h t).1 (h3 q ((gr_of h).lt q hs.2) hqb ((tab_anc h t).2 ⟨hs.1, (hup q).2 (.inr ⟨q, hq, .refl⟩)⟩))
        rcases (t.tok.anc ha).1 with e | e
        · rw [e]; exact hq
        · have := t.tok.le hqa.2
          omega
    · intro hq
      have hs := hst a hq
      refine ⟨fun e => hnot a hq (by rw [e]; exact .refl), (tab_anc h t).2 ⟨hs.1, (hup a).2 (.inr ⟨a, hq, .refl⟩)⟩, fun x _ hxb hx => ?_⟩
      rcases (hup x).1 ((tab_anc h t).1 hx).2 with e | ⟨q, hq', hxq⟩
      · exact absurd e hxb
      · rw [hq] at hq'
        cases hq'
        exact (tab_anc h t).2 ⟨hs.2, hxq⟩
  rcases hz with ⟨a, -, rfl, h2⟩ | ⟨rfl, h2⟩
  · rw [(hnr a).1 h2]; rfl
  · cases hv : fnO (L.set 0 none) b with
    | none => rfl
    | some q => exact absurd ((hnr q).2 hv) (h2 q ((gr_of h).lt q (hst q hv).2))
end Go.Proofs.YtcjodjmmojbigaaGreatDoor
namespace Go.Proofs.YtcjodjmmojbigaaGreatDoor
open Go.RowKit
set_option maxRecDepth 100000

/-- a block and what is below it, so many levels deep. -/
def pre (K : Nat → List Nat) : Nat → Nat → List Nat
  | 0, b => [b]
  | f + 1, b => b :: (K b).flatMap (pre K f)
theorem kidRow_nodup {L0 : List (Option Nat)} {p : Nat} : ∀ i, (kidRow L0 p i).Nodup
  | 0 => by simp [kidRow]
  | i + 1 => by
    have ih := kidRow_nodup (L0 := L0) (p := p) i
    have hi : i ∉ kidRow L0 p i := fun h => Nat.lt_irrefl _ (mem_kidRow.1 h).1
    rw [kidRow]
    split
    · rw [List.nodup_append]
      exact ⟨ih, by simp, fun a ha c hc e => hi (by rw [List.mem_singleton] at hc; subst hc; subst e; exact ha)⟩
    · exact ih
theorem pre_anc {n : Nat} {L : List (Option Nat)} : ∀ {f b x}, x ∈ pre (fun b => kidRow (L.set 0 none) b n) f b → Anc (fnO L) b x
  | 0, b, x, h => by
    rw [pre, List.mem_singleton] at h
    rw [h]; exact .refl
  | f + 1, b, x, h => by
    rw [pre, List.mem_cons, List.mem_flatMap] at h
    rcases h with rfl | ⟨k, hk, hx⟩
    · exact .refl
    · exact Anc.trans ((anc_up rfl).2 (.inr ⟨b, (mem_kidRow.1 hk).2, .refl⟩)) (pre_anc hx)
theorem pre_nodup {n : Nat} {O : List Nat} {P : Nat → List Nat} {L : List (Option Nat)} (t : NearOk n O P L) : ∀ f b, (pre (fun b => kidRow (L.set 0 none) b n) f b).Nodup
  | 0, b => by simp [pre]
  | f + 1, b => by
    rw [pre, List.nodup_cons]
    refine ⟨fun h => ?_, ?_⟩
    · obtain ⟨k, hk, hx⟩ := List.mem_flatMap.1 h
      exact anc_not t rfl (mem_kidRow.1 hk).2 (pre_anc hx)
    · unfold List.Nodup
      rw [List.pairwise_flatMap]
      refine ⟨fun k _ => pre_nodup t f k, ?_⟩
      refine (List.Pairwise.and_mem.1 (kidRow_nodup n)).imp ?_
      rintro k1 k2 ⟨h1, h2, hne⟩ x hx y hy rfl
      have a1 := pre_anc hx
      have a2 := pre_anc hy
      have key : ∀ {u v}, u ∈ kidRow (L.set 0 none) b n → v ∈ kidRow (L.set 0 none) b n → u ≠ v → ¬ Anc (fnO L) u v := fun hu hv huv ha => by
        rcases (anc_up (L := L) rfl).1 ha with e | ⟨q, hq, h⟩
        · exact huv e
        · rw [(mem_kidRow.1 hv).2] at hq
          cases hq
          exact anc_not t rfl (mem_kidRow.1 hu).2 h
      rcases Nat.le_total (pz n O k1) (pz n O k2) with hl | hl
      · exact key h1 h2 hne (t.tok.lin a1 a2 hl)
      · exact key h2 h1 hne.symm (t.tok.lin a2 a1 hl)
end Go.Proofs.YtcjodjmmojbigaaGreatDoor
namespace Go.Proofs.YtcjodjmmojbigaaGreatDoor
open Go.RowKit
set_option maxRecDepth 100000

/-- the kids of a block of the tree. -/
def kidsOf (n : Nat) (L : List (Option Nat)) (b : Nat) : List Nat := kidRow (L.set 0 none) b n
theorem mem_kidsOf {n : Nat} {L : List (Option Nat)} {b k : Nat} : k ∈ kidsOf n L b ↔ k < n ∧ fnO (L.set 0 none) k = some b := mem_kidRow
theorem pre_lt {n : Nat} {L : List (Option Nat)} : ∀ {f b x : Nat}, b < n → x ∈ pre (kidsOf n L) f b → x < n
  | 0, b, x, hb, h => by
    rw [pre, List.mem_singleton] at h
    rw [h]; exact hb
  | f + 1, b, x, hb, h => by
    rw [pre, List.mem_cons, List.mem_flatMap] at h
    rcases h with rfl | ⟨k, hk, hx⟩
    · exact hb
    · exact pre_lt (mem_kidsOf.1 hk).1 hx
theorem pre_len {n : Nat} {O : List Nat} {P : Nat → List Nat} {L : List (Option Nat)} (t : NearOk n O P L) {f b : Nat} (hb : b < n) : (pre (kidsOf n L) f b).length ≤ n :=
  nodup_len n _ (pre_nodup t f b) fun _ hx => pre_lt hb hx
section
variable {n : Nat} {O : List Nat} {P : Nat → List Nat} {L V : List (Option Nat)} {b k : Nat}
open Classical in
/-- a block's level is below the number of blocks. -/
theorem lv_lt (g : GrOk n O P) (t : NearOk n O P L) (l : LvOk (· ∈ O) (fnO L) (fnO V)) (hb : fnO V b = some k) : k < n := by
  have hO : b ∈ O := l.iff.1 (by rw [hb]; simp)
  have h1 := aboveN_eq t.tok l (fun b h => g.lt b h) k b hb
  have h2 := nodup_len n (b :: (List.range n).filter fun a => decide (a ≠ b ∧ Anc (fnO L) a b)) (by
    rw [List.nodup_cons]
    refine ⟨fun h => ?_, by unfold List.Nodup; exact List.Pairwise.filter _ List.nodup_range⟩
    have := (List.mem_filter.1 h).2
    simp at this) (fun x hx => by
    rcases List.mem_cons.1 hx with rfl | h
    · exact g.lt _ hO
    · exact List.mem_range.1 (List.mem_filter.1 h).1)
  unfold aboveN at h1
  rw [List.length_cons, h1] at h2
  omega
/-- a kid stands one level lower. -/
theorem kid_lv (t : NearOk n O P L) (l : LvOk (· ∈ O) (fnO L) (fnO V)) {j : Nat} (hb : fnO V b = some k) (hj : j ∈ kidsOf n L b) : fnO V j = some (k + 1) ∧ j ∈ O ∧ j < n := by
  have h1 := mem_kidsOf.1 hj
  have h0 : j ≠ 0 := fun e => by
    subst e
    have := h1.2
    by_cases hl : 0 < L.length
    · rw [fnO_set0 hl] at this; cases this
    · rw [t.len] at hl; omega
  have hN : fnO L j = some b := by rw [← fnO_ne h0]; exact h1.2
  obtain ⟨i, h3, h4⟩ := l.up' t.tok h0 hN
  rw [hb] at h3
  cases h3
  exact ⟨h4, (t.tok.up h0 hN).1, h1.1⟩
end
end Go.Proofs.YtcjodjmmojbigaaGreatDoor
namespace Go.Proofs.YtcjodjmmojbigaaGreatDoor
open Go.RowKit
set_option maxRecDepth 100000
section
variable {w : World} {tb n gn gl gk gf : Nat} {O : List Nat} {P : Nat → List Nat} {L V : List (Option Nat)}
/-- the kids of a block: a copy. -/
theorem kids_calls (g : GrOk n O P) (h : TreeD w w.heap.size tb n O P gn gl gk gf L V) (b : Nat) (hb : b < n) (hn : n ≤ 64) :
    Calls Tryz.prog 16 #[.pointer (some ⟨tb, 0, none⟩), .int .i64 (b : Int)] w (RetInts w (if b ∈ O then ints (kidRow (L.set 0 none) b n) else [])) := by
  have h1 := tHas_calls g h (b : Int)
  rw [inO_nat] at h1
  by_cases hO : b ∈ O
  · rw [if_pos hO]
    rw [decide_eq_true hO] at h1
    have ht := h.ht
    have c2 := h.c2
    have hl : (kidRow (L.set 0 none) b n).length ≤ n := kidRow_le n
    obtain ⟨bb, off, he, hbb, v, hc, A, c, rfl, -, hk, hr⟩ := h.rk b (ints (kidRow (L.set 0 none) b n)) (by simp [hb])
    cases he
    have hlen : (ints (kidRow (L.set 0 none) b n)).length ≤ n := by simpa [ints] using hl
    have hcl := clone_calls (c := c) hr (by omega)
    rw [show 0 + b * 1 = b by omega] at hc
    generalize ints (kidRow (L.set 0 none) b n) = xs at *
    clear hO hr hl
    go_enter Tryz.func16, Tryz.ntmps16
    go_wp2_with fail
    refine h1.mono ?_
    rintro e w1 ⟨rfl, hw1⟩
    subst w1
    go_wp2_with fail
    refine hcl.mono ?_
    rintro e w2 ⟨v', rfl, ho, hb2⟩
    go_wp2
    go_ret
    exact RetInts.of_own ho (by omega) hb2
  · rw [if_neg hO]
    rw [decide_eq_false hO] at h1
    clear hO
    go_enter Tryz.func16, Tryz.ntmps16
    go_wp2_with fail
    refine h1.mono ?_
    rintro e w1 ⟨rfl, hw1⟩
    subst w1
    go_wp2
    go_ret
    exact RetInts.nil_ (Below.refl _ _)
/-- the level of a block. -/
theorem level_calls (g : GrOk n O P) (h : TreeD w w.heap.size tb n O P gn gl gk gf L V) (b : Nat) (hb : b < n) :
    Calls Tryz.prog 15 #[.pointer (some ⟨tb, 0, none⟩), .int .i64 (b : Int)] w fun e w' => (∃ k : Nat, (b ∈ O ∧ fnO V b = some k ∧ e = .returned (.tuple #[.int .i64 (k : Int), .bool true])) ∨ (b ∉ O ∧ k = 0 ∧ e = .returned (.tuple #[.int .i64 0, .bool false]))) ∧ w' = w := by
  have h1 := tHas_calls g h (b : Int)
  rw [inO_nat] at h1
  by_cases hO : b ∈ O
  · rw [decide_eq_true hO] at h1
    obtain ⟨k, hv⟩ : ∃ k, fnO V b = some k := by
      cases hv : fnO V b with
      | none => exact absurd hv (h.lv.iff.2 hO)
      | some k => exact ⟨k, rfl⟩
    have ht := h.ht
    have c1 := h.c1
    have hgl := h.gl_
    have hc := h.rl b hb
    rw [hv] at hc
    replace hc : w.cell? ⟨gl, b, none⟩ = some (.int .i64 (k : Int)) := hc
    have HO := Lib.hid hO
    have HV := Lib.hid hv
    clear hO hv
    go_enter Tryz.func15, Tryz.ntmps15
    go_wp2_with fail
    refine h1.mono ?_
    rintro e w1 ⟨rfl, hw1⟩
    subst w1
    go_wp2
    go_ret2
    exact ⟨⟨k, .inl ⟨HO.out, HV.out, rfl⟩⟩, rfl⟩
  · rw [decide_eq_false hO] at h1
    have HO := Lib.hid hO
    clear hO
    go_enter Tryz.func15, Tryz.ntmps15
    go_wp2_with fail
    refine h1.mono ?_
    rintro e w1 ⟨rfl, hw1⟩
    subst w1
    go_wp2
    go_ret2
    exact ⟨⟨0, .inr ⟨HO.out, rfl, rfl⟩⟩, rfl⟩
end
end Go.Proofs.YtcjodjmmojbigaaGreatDoor
namespace Go.Proofs.YtcjodjmmojbigaaGreatDoor
open Go.RowKit
set_option maxRecDepth 100000

/-- what has been laid down when j kids are done. -/
def laid (n : Nat) (L : List (Option Nat)) (f b : Nat) (xs : List Int) (j : Nat) : List Int := xs ++ ints (b :: ((kidsOf n L b).take j).flatMap (pre (kidsOf n L) f))
def RetOwn (B : Nat) (xs : List Int) (e : Ending) (w' : World) : Prop := ∃ v', e = .returned v' ∧ w'.ownsRow B 3 1 v' xs.length (xs.map (Value.int .i64))
section
variable {n f b j : Nat} {L : List (Option Nat)} {xs : List Int}
theorem laid_zero : laid n L f b xs 0 = xs ++ [(b : Int)] := by simp [laid, ints]
theorem laid_step {k : Nat} (hk : (kidsOf n L b)[j]? = some k) : laid n L f b xs (j + 1) = laid n L f b xs j ++ ints (pre (kidsOf n L) f k) := by
  unfold laid
  rw [List.take_add_one, hk]
  simp [ints]
theorem laid_end : laid n L f b xs (kidsOf n L b).length = xs ++ ints (pre (kidsOf n L) (f + 1) b) := by
  unfold laid
  rw [List.take_length, pre]
theorem laid_le : (laid n L f b xs j).length ≤ xs.length + (pre (kidsOf n L) (f + 1) b).length := by
  have h : ((kidsOf n L b).take j).flatMap (pre (kidsOf n L) f) ++ ((kidsOf n L b).drop j).flatMap (pre (kidsOf n L) f) = (kidsOf n L b).flatMap (pre (kidsOf n L) f) := by
    rw [← List.flatMap_append, List.take_append_drop]
  unfold laid
  rw [pre, ← h]
  simp [ints]
end
set_option maxHeartbeats 4000000 in
theorem below_calls {W : World} {tb n gn gl gk gf : Nat} {O : List Nat} {P : Nat → List Nat} {L V : List (Option Nat)} (g : GrOk n O P) (h : TreeD W W.heap.size tb n O P gn gl gk gf L V) (hn : n ≤ 64) (B : Nat) (hWB : W.heap.size ≤ B) :
    ∀ (f : Nat) (w : World) (v : Value) (xs : List Int) (b k : Nat), fnO V b = some k → n ≤ k + f → b < n → xs.length + (pre (kidsOf n L) f b).length ≤ 200 → Below W.heap.size W w → B ≤ w.heap.size → w.ownsRow B 3 1 v xs.length (xs.map (Value.int .i64)) →
      Calls Tryz.prog 50 #[.pointer (some ⟨tb, 0, none⟩), .int .i64 (b : Int), v] w fun e w' => RetOwn B (xs ++ ints (pre (kidsOf n L) f b)) e w' ∧ Below B w w'
  | 0, w, v, xs, b, k, hv, hkf, hb, hlen, hW, hB, hown => by
    have := lv_lt g h.near h.lv hv
    omega
  | f + 1, w, v, xs, b, k, hv, hkf, hb, hlen, hW, hB, hown => by
    have ih := Lib.hid (below_calls g h hn B hWB f)
    have ht := h.ht
    have htw := Nat.lt_of_lt_of_le ht hW.size
    have c2 := (hW.cell (p := ⟨tb, 2, none⟩) ht).trans h.c2
    obtain ⟨bb, off, he, hbb, v3, hc, A, c, rfl, -, hk, hr⟩ := h.rk b (ints (kidsOf n L b)) (by simp [hb, kidsOf])
    cases he
    rw [show 0 + b * 1 = b by omega] at hc
    have hcw := (hW.cell (p := ⟨gk, b, none⟩) hbb).trans hc
    have hgkw := Nat.lt_of_lt_of_le hbb hW.size
    have hkl : (kidsOf n L b).length ≤ n := kidRow_le n
    have hil : (ints (kidsOf n L b)).length = (kidsOf n L b).length := by simp [ints]
    rw [hil] at hcw hk
    have hget : ∀ j, j < (kidsOf n L b).length → ∃ q, (kidsOf n L b)[j]? = some q ∧ ith (ints (kidsOf n L b)) j = (q : Int) ∧ fnO V q = some (k + 1) ∧ q < n := fun j hj => by
      have hm := kid_lv h.near h.lv hv (List.getElem_mem hj)
      refine ⟨(kidsOf n L b)[j], by simp [hj], ?_, hm.1, hm.2.2⟩
      simp [ith, ints, List.getD, hj]
    have HG := Lib.hid hget
    have HIL := Lib.hid hil
    have HR := Lib.hid hr
    have hl0 : xs.length < 1048576 := by omega
    have HL := Lib.hid (fun j => laid_le (n := n) (f := f) (b := b) (j := j) (L := L) (xs := xs))
    have hbn : (b : Int) < (n : Int) := by omega
    clear hget hil hr hc hv
    have hbox0 := Lib.hid (fun (j : Nat) (q : Nat) (hq : (kidsOf n L b)[j]? = some q) => laid_step (f := f) (xs := xs) hq)
    have hend := Lib.hid (laid_end (n := n) (f := f) (b := b) (L := L) (xs := xs))
    have hzero := Lib.hid (laid_zero (n := n) (f := f) (b := b) (L := L) (xs := xs))
    obtain ⟨Av, cv, rfl⟩ := own_form hown
    have hA : ∀ w3, (w.alloc (.cells #[.int .i64 (b : Int)] 3)).grownBy w3 (Value.slice Av xs.length cv).ownBlock → Below B w w3 ∧ w3.cell? ⟨tb, 2, none⟩ = some (.slice (some ⟨gk, 0, none⟩) n n) ∧ w3.cell? ⟨gk, b, none⟩ = some (.slice A (kidsOf n L b).length c) ∧ tb < w3.heap.size ∧ gk < w3.heap.size := fun w3 hg => by
      have hb3 := grown_below hown hg (Below.refl B w) (Nat.le_refl _) hB
      have hW3 := hW.trans (hb3.mono hWB)
      refine ⟨hb3, (hW3.cell (p := ⟨tb, 2, none⟩) ht).trans h.c2, ?_, Nat.lt_of_lt_of_le htw hb3.size, Nat.lt_of_lt_of_le hgkw hb3.size⟩
      rw [hb3.cell (p := ⟨gk, b, none⟩) (Nat.lt_of_lt_of_le hbb hWB)]
      exact hcw
    have HA := Lib.hid hA
    clear hA hcw c2
    go_enter Tryz.func50, Tryz.ntmps50
    go_wp2_with (at_builtin; refine wpList_append1F _ rfl _ _ 23 rfl B 3 8 Tryz.underlying23 Tryz.info3 rfl _ _ _ rfl hown _ rfl _ rfl rfl hl0 (by decide) hB ?_; intro v' w3 hown3 hg3 hfr3; obtain ⟨hb3, hc3, hd3, ht3, hgk3⟩ := HA.out w3 hg3)
    clear hc3 hd3
    go_loopw [2, 21] (fun v i wr => ∃ j : Nat, i = .int .i64 j ∧ j ≤ (kidsOf n L b).length ∧ wr.ownsRow B 3 1 v (laid n L f b xs j).length ((laid n L f b xs j).map (Value.int .i64)) ∧ Below B w wr) (fun _ i _ => (kidsOf n L b).length - (intOf i).toNat)
    case atStart => exact ⟨0, rfl, Nat.zero_le _, by rw [hzero.out]; simpa using hown3, hb3⟩
    case round => as_aux_lemma =>
      clear hown3 hb3
      obtain ⟨j, rfl, hj, hown, hb3⟩ := hrel
      obtain ⟨Aq, cq, rfl⟩ := own_form hown
      have hW4 := hW.trans (hb3.mono hWB)
      have hz4 := hb3.size
      by_cases hjl : j < (kidsOf n L b).length
      · have fj : (j : Int) < ((kidsOf n L b).length : Int) := by omega
        obtain ⟨q, hq1, hq2, hq3, hq4⟩ := HG.out j hjl
        obtain ⟨b7, o7, rfl, hb7, hc7⟩ := HR.out.int hW4 (i := j) (by rw [HIL.out]; exact hjl)
        rw [hq2] at hc7
        have hst := hbox0.out j q hq1
        have hl1 := HL.out (j + 1)
        have hcall := ih.out wr _ (laid n L f b xs j) q (k + 1) hq3 (by omega) hq4 (by rw [hst] at hl1; simp [ints] at hl1; omega) hW4 (by omega) hown
        rw [← hst] at hcall
        clear hq1 hq2 hq3 hst hl1
        go_wp2_with fail
        refine hcall.mono ?_
        rintro e w8 ⟨⟨v8, rfl, hown8⟩, hb8⟩
        go_wp2
        go_roundw
        case rel => exact ⟨j + 1, by go_num, by omega, hown8, hb3.trans hb8⟩
        case measure => simp [intOf]; omega
      · obtain rfl : j = (kidsOf n L b).length := by omega
        go_wp2
        go_ret
        rw [← hend.out]
        exact ⟨⟨_, rfl, hown⟩, hb3⟩
/-- the order of the tree's blocks. -/
theorem orderT_calls {w : World} {tb n gn gl gk gf : Nat} {O : List Nat} {P : Nat → List Nat} {L V : List (Option Nat)} (g : GrOk n O P) (h : TreeD w w.heap.size tb n O P gn gl gk gf L V) (hn : n ≤ 64) :
    Calls Tryz.prog 17 #[.pointer (some ⟨tb, 0, none⟩)] w (RetInts w (ints (pre (kidsOf n L) n 0))) := by
  have h0 : 0 < n := g.lt 0 (h.lv.iff.1 (by rw [h.lv.zero]; simp))
  have hl := pre_len h.near (f := n) h0
  have hcall := below_calls g h hn w.heap.size (Nat.le_refl _) n w (.slice none 0 0) [] 0 0 h.lv.zero (by omega) h0 (by simp; omega) (Below.refl _ _) (Nat.le_refl _) (World.ownsRow_nil _ _ _ _)
  go_enter Tryz.func17, Tryz.ntmps17
  go_wp2_with fail
  refine hcall.mono ?_
  rintro e w8 ⟨⟨v8, rfl, hown8⟩, hb8⟩
  go_wp2
  go_ret
  rw [List.nil_append] at hown8
  exact RetInts.of_own hown8 (by simp [ints]; omega) hb8
end Go.Proofs.YtcjodjmmojbigaaGreatDoor
namespace Go.Proofs.YtcjodjmmojbigaaGreatDoor
open Go.RowKit
set_option maxRecDepth 100000

theorem nrP_iff {F : PFunc} {L : List (Option Nat)} (h : typedP F = true) (t : NearOk F.blocks.length (OR F) (PR F) L) {a b : Nat} : nrP F a b ↔ fnO (L.set 0 none) b = some a := by
  have hup := fun a => anc_up (y := a) (x := b) (L := L) rfl
  have hnot : ∀ q, fnO (L.set 0 none) b = some q → ¬ Anc (fnO L) b q := fun q hq => anc_not t rfl hq
  have hst : ∀ q, fnO (L.set 0 none) b = some q → b ∈ OR F ∧ q ∈ OR F := fun q hq => by
    have h0 : b ≠ 0 := fun e => by
      subst e
      exact hnot q hq (by
        by_cases hl : 0 < L.length
        · rw [fnO_set0 hl] at hq; cases hq
        · simp [fnO, List.getD, hl] at hq)
    rw [fnO_ne h0] at hq
    exact ⟨(t.tok.up h0 hq).1, (t.tok.up h0 hq).2.1⟩
  constructor
  · rintro ⟨h1, h2, h3⟩
    rcases (hup a).1 ((tab_anc h t).1 h2).2 with e | ⟨q, hq, ha⟩
    · exact absurd e h1
    · have hs := hst q hq
      have hqb : q ≠ b := fun e => hnot q hq (by rw [e]; exact .refl)
      have hqa := (tab_anc h t).1 (h3 q ((gr_of h).lt q hs.2) hqb ((tab_anc h t).2 ⟨hs.1, (hup q).2 (.inr ⟨q, hq, .refl⟩)⟩))
      rcases (t.tok.anc ha).1 with e | e
      · rw [e]; exact hq
      · have := t.tok.le hqa.2
        omega
  · intro hq
    have hs := hst a hq
    refine ⟨fun e => hnot a hq (by rw [e]; exact .refl), (tab_anc h t).2 ⟨hs.1, (hup a).2 (.inr ⟨a, hq, .refl⟩)⟩, fun x _ hxb hx => ?_⟩
    rcases (hup x).1 ((tab_anc h t).1 hx).2 with e | ⟨q, hq', hxq⟩
    · exact absurd e hxb
    · rw [hq] at hq'
      cases hq'
      exact (tab_anc h t).2 ⟨hs.2, hxq⟩
/-- what has been laid down when the blocks below j are done. -/
def laidR (n : Nat) (L : List (Option Nat)) (f b j : Nat) : List Nat := b :: (kidRow (L.set 0 none) b j).flatMap (pre (kidsOf n L) f)
section
variable {n f b j : Nat} {L : List (Option Nat)}
theorem laidR_zero : laidR n L f b 0 = [b] := by simp [laidR, kidRow]
theorem laidR_yes (h : fnO (L.set 0 none) j = some b) : laidR n L f b (j + 1) = laidR n L f b j ++ pre (kidsOf n L) f j := by
  unfold laidR
  rw [kidRow, if_pos h]
  simp
theorem laidR_no (h : ¬ fnO (L.set 0 none) j = some b) : laidR n L f b (j + 1) = laidR n L f b j := by
  unfold laidR
  rw [kidRow, if_neg h]
theorem laidR_end : laidR n L f b n = pre (kidsOf n L) (f + 1) b := rfl
theorem laidR_mono : ∀ {i j : Nat}, i ≤ j → (laidR n L f b i).length ≤ (laidR n L f b j).length
  | i, 0, h => by
    have : i = 0 := by omega
    subst this; exact Nat.le_refl _
  | i, j + 1, h => by
    by_cases e : i = j + 1
    · subst e; exact Nat.le_refl _
    · refine Nat.le_trans (laidR_mono (show i ≤ j by omega)) ?_
      by_cases hk : fnO (L.set 0 none) j = some b
      · rw [laidR_yes hk]; simp
      · rw [laidR_no hk]; exact Nat.le_refl _
end
/-- the document's table in memory. -/
def TabAt (F : PFunc) (w : World) (b0 : Nat) : Prop := b0 < w.heap.size ∧ ∀ a, a < F.blocks.length → ∃ b1, w.cell? ⟨b0, a, none⟩ = some (.slice (some ⟨b1, 0, none⟩) F.blocks.length F.blocks.length) ∧ b1 < w.heap.size ∧ ∀ x, x < F.blocks.length → w.cell? ⟨b1, x, none⟩ = some (.bool (tabB F a x))
theorem TabAt.below {F : PFunc} {w w' : World} {b0 : Nat} (h : TabAt F w b0) (hb : Below w.heap.size w w') : TabAt F w' b0 := by
  refine ⟨Nat.lt_of_lt_of_le h.1 hb.size, fun a ha => ?_⟩
  obtain ⟨b1, h1, h2, h3⟩ := h.2 a ha
  exact ⟨b1, (hb.cell (p := ⟨b0, a, none⟩) h.1).trans h1, Nat.lt_of_lt_of_le h2 hb.size, fun x hx => (hb.cell (p := ⟨b1, x, none⟩) h2).trans (h3 x hx)⟩
/-- the nearest above, of the table in memory. -/
theorem refNearT_calls {w : World} {F : PFunc} {L : List (Option Nat)} {b0 c : Nat} (h : typedP F = true) (t : NearOk F.blocks.length (OR F) (PR F) L) (hT : TabAt F w b0) (b : Nat) (hb : b < F.blocks.length) :
    Calls Tryz.prog 14 #[.slice (some ⟨b0, 0, none⟩) F.blocks.length c, .int .i64 (b : Int)] w fun e w' => e = .returned (.int .i64 (encO (fnO (L.set 0 none) b))) ∧ w' = w :=
  (refNear_calls (c := c) (shaped_count (typed_shaped h)).2 hT.1 hT.2 b hb).mono fun _ _ ⟨⟨z, he, hz⟩, hw⟩ => ⟨by rw [he, nearR_tree h t hz], hw⟩
set_option maxHeartbeats 8000000 in
theorem refOrder_calls {F : PFunc} {L V : List (Option Nat)} {b0 c : Nat} (h : typedP F = true) (t : NearOk F.blocks.length (OR F) (PR F) L) (lv : LvOk (· ∈ OR F) (fnO L) (fnO V)) :
    ∀ (f : Nat) (w : World) (b k : Nat), fnO V b = some k → F.blocks.length ≤ k + f → b < F.blocks.length → TabAt F w b0 →
      Calls Tryz.prog 18 #[.slice (some ⟨b0, 0, none⟩) F.blocks.length c, .int .i64 (b : Int)] w (RetInts w (ints (pre (kidsOf F.blocks.length L) f b)))
  | 0, w, b, k, hv, hkf, hb, hT => by
    have := lv_lt (gr_of h) t lv hv
    omega
  | f + 1, w, b, k, hv, hkf, hb, hT => by
    have ih := Lib.hid (refOrder_calls (b0 := b0) (c := c) h t lv f)
    have n2 := (shaped_count (typed_shaped h)).2
    have HN := Lib.hid (fun (wr : World) (hT : TabAt F wr b0) (j : Nat) (hj : j < F.blocks.length) => refNearT_calls (b0 := b0) (c := c) h t hT j hj)
    have HT := Lib.hid hT
    have hlit : (w.alloc (.cells #[.int .i64 (b : Int)] 3)).ownsRow w.heap.size 3 1 (.slice (some ⟨w.heap.size, 0, none⟩) 1 1) 1 [.int .i64 (b : Int)] := by
      have := World.ownsRow_lit (base := w.heap.size) (e := 3) (size := 1) w #[.int .i64 (b : Int)] 1 (Nat.le_refl _) (by decide) rfl
      simpa using this
    have HLIT := Lib.hid hlit
    have HTOT := Lib.hid (show (laidR F.blocks.length L f b F.blocks.length).length ≤ F.blocks.length by rw [laidR_end]; exact pre_len t hb)
    have HMONO := Lib.hid (fun i j (h : i ≤ j) => laidR_mono (n := F.blocks.length) (f := f) (b := b) (L := L) h)
    have HKID := Lib.hid (fun j (hj : j < F.blocks.length) (hjb : fnO (L.set 0 none) j = some b) => kid_lv t lv hv (mem_kidsOf.2 ⟨hj, hjb⟩))
    have HNR := Lib.hid (fun j (hj : fnO (L.set 0 none) j = some b) => (nrP_iff h t).2 hj)
    have hbn : (b : Int) < (F.blocks.length : Int) := by omega
    obtain ⟨ii, hii, hj0, hj1, hj2⟩ := info_parts Tryz.info3
    clear hT hlit hv
    go_enter Tryz.func18, Tryz.ntmps18
    go_wp2
    go_loopw [5, 11] (fun v i wr => ∃ j : Nat, i = .int .i64 j ∧ j ≤ F.blocks.length ∧ wr.ownsRow w.heap.size 3 1 v (laidR F.blocks.length L f b j).length ((ints (laidR F.blocks.length L f b j)).map (Value.int .i64)) ∧ Below w.heap.size w wr) (fun _ i _ => F.blocks.length - (intOf i).toNat)
    case atStart => exact ⟨0, rfl, Nat.zero_le _, by rw [laidR_zero]; exact HLIT.out, (Below.refl _ _).alloc (Nat.le_refl _) _⟩
    case round => as_aux_lemma =>
      obtain ⟨j, rfl, hj, hown, hbl⟩ := hrel
      obtain ⟨Av, cv, rfl⟩ := own_form hown
      by_cases hjl : j < F.blocks.length
      · have fj : (j : Int) < (F.blocks.length : Int) := by omega
        have hTw := HT.out.below hbl
        have hnear := HN.out wr hTw j hjl
        obtain ⟨b1, q0, q1, q2⟩ := hTw.2 b hb
        have qj := q2 j hjl
        have q3 := hTw.1
        clear q2
        by_cases hk : fnO (L.set 0 none) j = some b
        · have hnr := HNR.out j hk
          have hkid := HKID.out j hjl hk
          have e0 : ((j : Int) != (b : Int)) = true := by rw [bne_iff_ne]; have := hnr.1; omega
          rw [tabB_iff.2 hnr.2.1] at qj
          rw [hk] at hnear
          replace hnear : Calls Tryz.prog 14 #[.slice (some ⟨b0, 0, none⟩) F.blocks.length c, .int .i64 (j : Int)] wr fun e w' => e = .returned (.int .i64 (b : Int)) ∧ w' = wr := hnear
          have hcall := ih.out wr j (k + 1) hkid.1 (by omega) hjl hTw
          have hstep : laidR F.blocks.length L f b (j + 1) = laidR F.blocks.length L f b j ++ pre (kidsOf F.blocks.length L) f j := laidR_yes hk
          have htot := HTOT.out
          have hmono := HMONO.out (j + 1) F.blocks.length (by omega)
          have hlen := congrArg List.length hstep
          rw [List.length_append] at hlen
          have hpl : (ints (pre (kidsOf F.blocks.length L) f j)).length = (pre (kidsOf F.blocks.length L) f j).length := by simp [ints]
          have hpos : ints (pre (kidsOf F.blocks.length L) f j) ≠ [] := by cases f <;> simp [pre, ints]
          have HSTEP := Lib.hid hstep
          have HLEN := Lib.hid hlen
          have hmax : (laidR F.blocks.length L f b j).length + (pre (kidsOf F.blocks.length L) f j).length ≤ 64 := by omega
          have HPL := Lib.hid hpl
          have HPOS := Lib.hid hpos
          clear hnr hkid hk hstep hlen hpl hpos htot hmono
          go_wp2_with fail
          refine hnear.mono ?_
          rintro e w1 ⟨rfl, hw1⟩
          subst w1
          go_wp2_with fail
          refine hcall.mono ?_
          rintro e w7 ⟨A7, c7, rfl, l7, k7, r7, hb7⟩
          have hown7 := own_below hown hb7
          obtain ⟨bb, off, rfl, hbb, hcc⟩ := r7.at_int HPOS.out
          have hcells : ∀ i u, ((ints (pre (kidsOf F.blocks.length L) f j)).map (Value.int .i64))[i]? = some u → w7.cell? ((⟨bb, off, none⟩ : Addr).add i) = some u := fun i u hi => by
            have hil : i < (ints (pre (kidsOf F.blocks.length L) f j)).length := by have := (List.getElem?_eq_some_iff.1 hi).1; simpa using this
            have h1 := hcc i hil
            rw [Addr.add_lit, h1]
            simp [hil] at hi
            simp [← hi, List.getD, hil]
          have hone : ∀ u ∈ (ints (pre (kidsOf F.blocks.length L) f j)).map (Value.int .i64), u.oneCell' = true := fun u hu => by
            obtain ⟨x, -, rfl⟩ := List.mem_map.1 hu
            rfl
          have hll : ((ints (pre (kidsOf F.blocks.length L) f j)).map (Value.int .i64)).length = (pre (kidsOf F.blocks.length L) f j).length * 1 := by simp [ints]
          have HC := Lib.hid hcells
          have hz7 := hb7.size
          have hzw := hbl.size
          have hbo := fun k' (hk' : (Value.slice Av (laidR F.blocks.length L f b j).length cv).ownBlock = some k') => own_lt hown hk'
          rw [HPL.out] at k7 l7
          rw [HPL.out]
          clear hcells hcc
          go_wp2_with (at_builtin; refine wpList_append_own _ rfl _ _ 23 rfl w.heap.size 3 ii _ 1 8 Tryz.underlying23 hii hj0 hj1 hj2 rfl (by decide) _ (laidR F.blocks.length L f b j).length _ rfl hown7 ⟨bb, off, none⟩ (pre (kidsOf F.blocks.length L) f j).length c7 _ rfl hll HC.out hone (by unfold maxLen; omega) (by omega) (by omega) ?_; intro v' w3 hown3 hg3 _)
          go_roundw
          case rel =>
            refine ⟨j + 1, by go_num, by omega, ?_, (hbl.trans (hb7.mono hzw)).grown hg3 (by omega) (fun k' hk' => (hbo k' hk').1)⟩
            rw [HSTEP.out]
            simpa [ints] using hown3
          case measure => simp [intOf]; omega
        · have hstep : laidR F.blocks.length L f b (j + 1) = laidR F.blocks.length L f b j := laidR_no hk
          have HSTEP := Lib.hid hstep
          clear hstep
          by_cases hjb : j = b
          · have e0 : ((j : Int) != (b : Int)) = false := by simp [hjb]
            have HJB := Lib.hid hjb
            clear hjb hk hnear qj
            go_wp2
            go_roundw
            case rel => exact ⟨j + 1, by go_num, by omega, by rw [HSTEP.out]; exact hown, hbl⟩
            case measure => simp [intOf]; omega
          have e0 : ((j : Int) != (b : Int)) = true := by rw [bne_iff_ne]; omega
          cases hz : tabB F b j
          · rw [hz] at qj
            clear hz hk hnear hjb
            go_wp2
            go_roundw
            case rel => exact ⟨j + 1, by go_num, by omega, by rw [HSTEP.out]; exact hown, hbl⟩
            case measure => simp [intOf]; omega
          · rw [hz] at qj
            obtain ⟨z, hzz⟩ : ∃ z, encO (fnO (L.set 0 none) j) = z := ⟨_, rfl⟩
            have e1 : (z == (b : Int)) = false := by
              rw [beq_eq_false_iff_ne]
              intro e
              refine hk ?_
              cases hf : fnO (L.set 0 none) j with
              | none => rw [hf] at hzz; simp [encO] at hzz; omega
              | some q => rw [hf] at hzz; simp [encO] at hzz; rw [show q = b by omega]
            rw [hzz] at hnear
            clear hz hk hjb hzz
            go_wp2_with fail
            refine hnear.mono ?_
            rintro e w1 ⟨rfl, hw1⟩
            subst w1
            go_wp2
            go_roundw
            case rel => exact ⟨j + 1, by go_num, by omega, by rw [HSTEP.out]; exact hown, hbl⟩
            case measure => simp [intOf]; omega
      · obtain rfl : j = F.blocks.length := by omega
        have htot := HTOT.out
        go_wp2
        go_ret
        rw [laidR_end] at hown htot ⊢
        exact RetInts.of_own (by simpa [ints] using hown) (by omega) hbl
end Go.Proofs.YtcjodjmmojbigaaGreatDoor
namespace Go.Proofs.YtcjodjmmojbigaaGreatDoor
open Go.RowKit
set_option maxRecDepth 100000

/-- how many of those below i are above b, by the table. -/
noncomputable def cntA (F : PFunc) (b : Nat) : Nat → Nat
  | 0 => 0
  | i + 1 => if i ≠ b ∧ tabB F i b = true then cntA F b i + 1 else cntA F b i
theorem cntA_yes {F : PFunc} {b i : Nat} (h1 : i ≠ b) (h2 : tabB F i b = true) : cntA F b (i + 1) = cntA F b i + 1 := by rw [cntA, if_pos ⟨h1, h2⟩]
theorem cntA_no {F : PFunc} {b i : Nat} (h : i = b ∨ tabB F i b = false) : cntA F b (i + 1) = cntA F b i := by
  rw [cntA, if_neg]
  rintro ⟨h1, h2⟩
  rcases h with h | h
  · exact h1 h
  · rw [h] at h2; cases h2
theorem cntA_le {F : PFunc} {b : Nat} : ∀ i, cntA F b i ≤ i
  | 0 => Nat.le_refl _
  | i + 1 => by
    have := cntA_le (F := F) (b := b) i
    rw [cntA]
    split <;> omega
open Classical in
theorem cntA_filter {F : PFunc} {b : Nat} : ∀ i, cntA F b i = ((List.range i).filter fun a => decide (a ≠ b ∧ tabP F a b)).length
  | 0 => rfl
  | i + 1 => by
    rw [cntA, cntA_filter i, List.range_succ, List.filter_append, List.length_append]
    by_cases h : i ≠ b ∧ tabB F i b = true
    · have h' : i ≠ b ∧ tabP F i b := ⟨h.1, tabB_iff.1 h.2⟩
      rw [if_pos h]
      simp [h']
    · have h' : ¬ (i ≠ b ∧ tabP F i b) := fun h2 => h ⟨h2.1, tabB_iff.2 h2.2⟩
      rw [if_neg h]
      simp [h']
section
variable {F : PFunc} {L V : List (Option Nat)} {b : Nat}
theorem tab_self (h : typedP F = true) (t : NearOk F.blocks.length (OR F) (PR F) L) : tabB F b b = true ↔ b ∈ OR F := by
  rw [tabB_iff, tab_anc h t]
  exact ⟨fun h => h.1, fun h => ⟨h, .refl⟩⟩
open Classical in
theorem cntA_level (h : typedP F = true) (t : NearOk F.blocks.length (OR F) (PR F) L) (lv : LvOk (· ∈ OR F) (fnO L) (fnO V)) {k : Nat} (hb : fnO V b = some k) : cntA F b F.blocks.length = k := by
  have hO : b ∈ OR F := lv.iff.1 (by rw [hb]; simp)
  rw [cntA_filter, ← aboveN_eq t.tok lv (fun b h2 => (gr_of h).lt b h2) k b hb]
  unfold aboveN
  congr 1
  refine List.filter_congr fun a _ => ?_
  rw [Bool.eq_iff_iff, decide_eq_true_eq, decide_eq_true_eq, tab_anc h t]
  exact ⟨fun ⟨h1, _, h2⟩ => ⟨h1, h2⟩, fun ⟨h1, h2⟩ => ⟨h1, hO, h2⟩⟩
theorem cntA_out (h : typedP F = true) (t : NearOk F.blocks.length (OR F) (PR F) L) (hO : b ∉ OR F) : ∀ i, cntA F b i = 0
  | 0 => rfl
  | i + 1 => by
    rw [cntA, if_neg, cntA_out h t hO i]
    rintro ⟨_, h2⟩
    exact hO ((tab_anc h t).1 (tabB_iff.1 h2)).1
end
/-- the kids of b among those below i; none, if b is not reached. -/
noncomputable def krow (F : PFunc) (L : List (Option Nat)) (b i : Nat) : List Nat := if tabB F b b = true then kidRow (L.set 0 none) b i else []
section
variable {F : PFunc} {L V : List (Option Nat)} {b i : Nat}
theorem krow_zero : krow F L b 0 = [] := by unfold krow; split <;> rfl
theorem krow_out (h : tabB F b b = false) : krow F L b i = [] := by unfold krow; rw [h]; rfl
theorem krow_no (h : ¬ fnO (L.set 0 none) i = some b) : krow F L b (i + 1) = krow F L b i := by
  unfold krow
  rw [kidRow, if_neg h]
theorem krow_yes (hb : tabB F b b = true) (h : fnO (L.set 0 none) i = some b) : krow F L b (i + 1) = krow F L b i ++ [i] := by
  unfold krow
  rw [if_pos hb, if_pos hb, kidRow, if_pos h]
theorem krow_prefix : ∀ {i j : Nat}, i ≤ j → ∃ r, krow F L b j = krow F L b i ++ r
  | i, 0, h => ⟨[], by have : i = 0 := by omega
                       subst this; simp⟩
  | i, j + 1, h => by
    by_cases e : i = j + 1
    · subst e; exact ⟨[], by simp⟩
    · obtain ⟨r, hr⟩ := krow_prefix (show i ≤ j by omega)
      by_cases hb : tabB F b b = true
      · by_cases hk : fnO (L.set 0 none) j = some b
        · exact ⟨r ++ [j], by rw [krow_yes hb hk, hr, List.append_assoc]⟩
        · exact ⟨r, by rw [krow_no hk, hr]⟩
      · rw [Bool.not_eq_true] at hb
        exact ⟨[], by rw [krow_out hb, krow_out hb]; rfl⟩
theorem krow_at {N : Nat} (hi : i < N) (hb : tabB F b b = true) (h : fnO (L.set 0 none) i = some b) : (krow F L b i).length < (krow F L b N).length ∧ ith (ints (krow F L b N)) (krow F L b i).length = (i : Int) := by
  obtain ⟨r, hr⟩ := krow_prefix (F := F) (L := L) (b := b) (show i + 1 ≤ N by omega)
  rw [krow_yes hb h] at hr
  rw [hr]
  constructor
  · simp
  · simp [ith, ints, List.getD]
theorem krow_le (i : Nat) : (krow F L b i).length ≤ i := by
  unfold krow
  split
  · exact kidRow_le i
  · simp
theorem krow_kids (h : typedP F = true) (t : NearOk F.blocks.length (OR F) (PR F) L) : (if b ∈ OR F then ints (kidRow (L.set 0 none) b F.blocks.length) else []) = ints (krow F L b F.blocks.length) := by
  unfold krow
  by_cases hb : b ∈ OR F
  · rw [if_pos hb, if_pos ((tab_self h t).2 hb)]
  · rw [if_neg hb, if_neg (fun e => hb ((tab_self h t).1 e))]
    rfl
end
section
variable {w : World} {F : PFunc} {tb gn gl gk gf : Nat} {L V : List (Option Nat)}
/-- the methods of the tree, as the law wants them. -/
theorem levelT_calls (h : typedP F = true) (hD : TreeD w w.heap.size tb F.blocks.length (OR F) (PR F) gn gl gk gf L V) (b : Nat) (hb : b < F.blocks.length) :
    Calls Tryz.prog 15 #[.pointer (some ⟨tb, 0, none⟩), .int .i64 (b : Int)] w fun e w' => e = .returned (.tuple #[.int .i64 (cntA F b F.blocks.length : Int), .bool (tabB F b b)]) ∧ w' = w := by
  refine (level_calls (gr_of h) hD b hb).mono ?_
  rintro e w' ⟨⟨k, ⟨h1, h2, rfl⟩ | ⟨h1, h2, rfl⟩⟩, hw⟩
  · rw [cntA_level h hD.near hD.lv h2, (tab_self h hD.near).2 h1]
    exact ⟨rfl, hw⟩
  · have : tabB F b b = false := by
      cases hz : tabB F b b
      · rfl
      · exact absurd ((tab_self h hD.near).1 hz) h1
    rw [cntA_out h hD.near h1, this]
    exact ⟨rfl, hw⟩
theorem kidsT_calls (h : typedP F = true) (hD : TreeD w w.heap.size tb F.blocks.length (OR F) (PR F) gn gl gk gf L V) (b : Nat) (hb : b < F.blocks.length) :
    Calls Tryz.prog 16 #[.pointer (some ⟨tb, 0, none⟩), .int .i64 (b : Int)] w (RetInts w (ints (krow F L b F.blocks.length))) := by
  have := kids_calls (gr_of h) hD b hb (shaped_count (typed_shaped h)).2
  rwa [krow_kids h hD.near] at this
theorem nearT_none (h : typedP F = true) (hD : TreeD w w.heap.size tb F.blocks.length (OR F) (PR F) gn gl gk gf L V) {b : Nat} (hb : b < F.blocks.length) (hn : fnO (L.set 0 none) b = none) :
    Calls Tryz.prog 13 #[.pointer (some ⟨tb, 0, none⟩), .int .i64 (b : Int)] w fun e w' => e = .returned (.tuple #[.int .i64 0, .bool false]) ∧ w' = w := by
  refine (tNear_calls (gr_of h) hD b hb).mono ?_
  rintro e w' ⟨⟨p, ⟨h1, h2, rfl⟩ | ⟨h1, rfl⟩⟩, hw⟩
  · rw [hn] at h2; cases h2
  · exact ⟨rfl, hw⟩
theorem nearT_some (h : typedP F = true) (hD : TreeD w w.heap.size tb F.blocks.length (OR F) (PR F) gn gl gk gf L V) {b p : Nat} (hb : b < F.blocks.length) (hn : fnO (L.set 0 none) b = some p) :
    Calls Tryz.prog 13 #[.pointer (some ⟨tb, 0, none⟩), .int .i64 (b : Int)] w fun e w' => e = .returned (.tuple #[.int .i64 (p : Int), .bool true]) ∧ w' = w := by
  refine (tNear_calls (gr_of h) hD b hb).mono ?_
  rintro e w' ⟨⟨q, ⟨h1, h2, rfl⟩ | ⟨h1, rfl⟩⟩, hw⟩
  · rw [hn] at h2; cases h2; exact ⟨rfl, hw⟩
  · rw [hn] at h1; cases h1
end
end Go.Proofs.YtcjodjmmojbigaaGreatDoor
