/- What graph.Prune's memory holds while it goes through the blocks. No program's code in sight. -/
import Derived.Test.YtjdkcichkpolgaaGreatDoorPhi
import Derived.Test.YtjdkcichkpolgaaGreatDoorFnOf
namespace Go.Proofs.YtjdkcichkpolgaaGreatDoor
open Go.RowKit
set_option maxRecDepth 100000
def CBw (cs : List Value) (x : PBlock × Value × Value) : Prop :=
 cs = [.string x.1.name, x.2.1, x.2.2, .int .i64 x.1.term.kind, .int .i64 x.1.term.var, .int .i64 x.1.term.t0, .int .i64 x.1.term.t1] ∧ x.1.name.size ≤ maxLen
section
variable {w w' : World} {base g : Nat} {v : Value} {ts : List TypeId}
theorem own_ne_nt {e n sz : Nat} {xs : List Value} (ho : w.ownsRow base e sz v n xs) (he : e ∉ ts) {b : Nat} (hb : NT ts w b) : v.ownBlock ≠ some b := by
 intro e2
 obtain ⟨cs', t', h1, h2⟩ := hb
 rcases ho.2 with ⟨rfl, -⟩ | ⟨g, cap, cur, rfl, -, hh, -⟩
 · cases e2
 · cases e2
   rw [hh] at h1
   cases h1
   exact he h2
theorem KT.of_kp {e n sz : Nat} {xs : List Value} (h : Kp (fun b => v.ownBlock ≠ some b) w w') (ho : w.ownsRow base e sz v n xs) (he : e ∉ ts) : KT ts w w' :=
 ⟨h.size, fun b hb => h.blk b (own_ne_nt ho he hb) hb.lt⟩
theorem CBO.kp {e n sz : Nat} {xs : List Value} {cs : List Value} {x : PBlock × Value × Value} (hx : CBO w base cs x) (h : Kp (fun b => v.ownBlock ≠ some b) w w') (ho : w.ownsRow g e sz v n xs) (hi : e ≠ 3) (hn : e ≠ 55) (hd : ∀ k, x.2.1.ownBlock = some k → v.ownBlock ≠ some k) : CBO w' base cs x := by
 have hk : KT [3, 55] w w' := KT.of_kp h ho (by simp [hi, hn])
 exact ⟨hx.1, hx.2.1, hx.2.2.1.turn (fun k e => h.blk k (hd k e) (hx.2.2.1.lt e).2) (fun _ _ h => h.kt hk ZS), hx.2.2.2.kt hk ZS (fun _ _ h => h.kt hk ZS)⟩
theorem RRow.mem {α : Type} {sz e : Nat} {C C' : List Value → α → Prop} {xs : List α} (h : RRow w base e sz C v xs) (hC : ∀ cs x, x ∈ xs → C cs x → C' cs x) : RRow w base e sz C' v xs := by
 obtain ⟨ch, hl, hc, hr⟩ := h
 exact ⟨ch, hl, fun i cs x h1 h2 => ⟨(hc i cs x h1 h2).1, hC _ _ (List.mem_of_getElem? h2) (hc i cs x h1 h2).2⟩, hr⟩
end
structure PrI (F : PFunc) (wN wr : World) (g9 : Nat) (v0 v1 vbs : Value) (ps : List (PBlock × Value × Value)) (L : List PBlock) (i : Nat) (vb : Value) (qs : List (PBlock × Value × Value)) : Prop where
 map : qs.map Prod.fst = L
 far : ∀ q ∈ qs, ∀ j p, i ≤ j → ps[j]? = some p → Before q p
 box : BoxAt wr g9 #[v0, v1, vb] 26
 hV : RRow wr wN.heap.size 63 2 CVar v0 F.vars
 hI : wr.ownsRow wN.heap.size 3 1 v1 F.params.length (F.params.map (Value.int .i64))
 hq : RRow wr wN.heap.size 52 7 (CBO wr wN.heap.size) vb qs
 hp : RRow wr wN.heap.size 52 7 CBw vbs ps
 el : ∀ j p, i ≤ j → ps[j]? = some p → RRow wr wN.heap.size 66 3 (CPh wr) p.2.1 p.1.phis ∧ RRow wr wN.heap.size 55 4 (CIn wr) p.2.2 p.1.insts
 bel : Below wN.heap.size wN wr
section
variable {F : PFunc} {wN wr w' : World} {g9 i gb : Nat} {v0 v1 vbs vb : Value} {ps qs : List (PBlock × Value × Value)} {L : List PBlock}
theorem PrI.below (h : PrI F wN wr g9 v0 v1 vbs ps L i vb qs) (hb : Below wr.heap.size wr w') : PrI F wN w' g9 v0 v1 vbs ps L i vb qs := by
 have hk : KT [3, 66, 55, 52, 63] wr w' := KT.of_below hb
 exact ⟨h.map, h.far, h.box.below hb h.box.lt, h.hV.move hb (fun _ _ h => h), own_below h.hI hb, h.hq.kt hk ZS (fun _ _ h => CBO.kt hk ZS ZS ZS h), h.hp.move hb (fun _ _ h => h),
  fun j p hj hp => ⟨(h.el j p hj hp).1.kt hk ZS (fun _ _ h => h.kt hk ZS), (h.el j p hj hp).2.kt hk ZS (fun _ _ h => h.kt hk ZS)⟩, h.bel.trans (hb.mono h.bel.size)⟩
theorem PrI.skip (h : PrI F wN wr g9 v0 v1 vbs ps (prBlks F i) i vb qs) (ht : thB F i = false) : PrI F wN wr g9 v0 v1 vbs ps (prBlks F (i + 1)) (i + 1) vb qs :=
 ⟨by rw [prBlks_no ht]; exact h.map, fun q hq j p hj hp => h.far q hq j p ZO hp, h.box, h.hV, h.hI, h.hq, h.hp, fun j p hj hp => h.el j p ZO hp, h.bel⟩
theorem PrI.phis {C : List Value → PPhi → Prop} {ys : List PPhi} {p : PBlock × Value × Value} (h : PrI F wN wr g9 v0 v1 vbs ps L i vb qs) (hpi : ps[i]? = some p) (hpw : ps.Pairwise Before) (hk : Kp (fun b => p.2.1.ownBlock ≠ some b) wr w')
 (hr : RRow wr wN.heap.size 66 3 C p.2.1 ys) : PrI F wN w' g9 v0 v1 vbs ps L (i + 1) vb qs := by
 obtain ⟨cells, ho⟩ := hr.own
 have hto : KT [3, 55, 52, 63] wr w' := KT.of_kp hk ho ZS
 have hil : i < ps.length := (List.getElem?_eq_some_iff.1 hpi).1
 have hip : ps[i] = p := (List.getElem?_eq_some_iff.1 hpi).2
 refine ⟨h.map, fun q hq j p hj hp => h.far q hq j p ZO hp, (hk.blk g9 (own_box_ne ho h.box ZD) h.box.lt).trans h.box, h.hV.kt hto ZS (fun _ _ h => h), own_kt h.hI hto ZS, ?_, h.hp.kt hto ZS (fun _ _ h => h), fun j q hj hq => ⟨?_, (h.el j q ZO hq).2.kt hto ZS (fun _ _ h => h.kt hto ZS)⟩, ?_⟩
 · refine RRow.kt (C := CBO w' wN.heap.size) (h.hq.mem fun cs x hx hc => CBO.kp hc hk ho ZD ZD fun k e1 e2 => ?_) hto ZS (fun _ _ h => h)
   have := (h.far x hx i p (Nat.le_refl _) hpi).1 k k e1 e2
   omega
 · have hjl : j < ps.length := (List.getElem?_eq_some_iff.1 hq).1
   have hjp : ps[j] = q := (List.getElem?_eq_some_iff.1 hq).2
   have hbe := List.pairwise_iff_getElem.1 hpw i j hil hjl ZO
   rw [hip, hjp] at hbe
   exact (h.el j q ZO hq).1.turn (fun k e => hk.blk k (fun e2 => by have := hbe.1 k k e2 e; omega) ((h.el j q ZO hq).1.lt e).2) (fun _ _ h => h.kt hto ZS)
 · exact h.bel.trans (hk.to_below (fun k hlt e => by have := (own_lt ho e).1; omega) h.bel.size)
theorem PrI.kpb {cs : Array Value} (h : PrI F wN wr g9 v0 v1 vbs ps L i vb qs) (hk : Kp (fun b => b ≠ gb) wr w') (hbx : BoxAt wr gb cs 52) (h1 : ∀ k, vb.ownBlock = some k → k ≠ gb) (h2 : ∀ k, vbs.ownBlock = some k → k ≠ gb) (h9 : g9 ≠ gb) (hB : wN.heap.size ≤ gb) : PrI F wN w' g9 v0 v1 vbs ps L i vb qs := by
 have hto : KT [3, 55, 66, 63] wr w' := ⟨hk.size, fun b hb => hk.blk b (by
  rintro rfl
  obtain ⟨cs', t', e1, e2⟩ := hb
  unfold BoxAt at hbx
  rw [hbx] at e1
  cases e1
  exact absurd e2 ZD) hb.lt⟩
 refine ⟨h.map, h.far, (hk.blk g9 h9 h.box.lt).trans h.box, h.hV.kt hto ZS (fun _ _ h => h), own_kt h.hI hto ZS, ?_, h.hp.turn (fun k e => hk.blk k (h2 k e) (h.hp.lt e).2) (fun _ _ h => h), fun j q hj hq => ⟨(h.el j q hj hq).1.kt hto ZS (fun _ _ h => h.kt hto ZS), (h.el j q hj hq).2.kt hto ZS (fun _ _ h => h.kt hto ZS)⟩, ?_⟩
 · exact h.hq.turn (fun k e => hk.blk k (h1 k e) (h.hq.lt e).2) (fun _ _ h => ⟨h.1, h.2.1, h.2.2.1.kt hto ZS (fun _ _ h => h.kt hto ZS), h.2.2.2.kt hto ZS (fun _ _ h => h.kt hto ZS)⟩)
 · exact h.bel.trans (hk.to_below (fun k hlt => ZO) h.bel.size)
end
def trK (F : PFunc) (t : PTerm) (k : Nat) : PTerm := { t with t0 := if 0 < k then (numP F (ith (endsOf t) 0).toNat : Int) else t.t0, t1 := if 1 < k then (numP F (ith (endsOf t) 1).toNat : Int) else t.t1 }
theorem trK_other {F : PFunc} {t : PTerm} (h : ¬ (t.kind = 1 ∧ t.t0 = t.t1)) : trK F t (endsOf t).length = prTerm F t := by
 unfold trK prTerm endsOf
 by_cases h0 : t.kind = 0
 · simp [h0, ith]
 · by_cases h1 : t.kind = 1
   · have h2 : t.t0 ≠ t.t1 := fun e => h ⟨h1, e⟩
     simp [h1, h2, ith]
   · simp [h0, h1]
theorem trK_twin {F : PFunc} {t : PTerm} (h1 : t.kind = 1) (h2 : t.t0 = t.t1) : ({ trK F t (endsOf t).length with t1 := (trK F t (endsOf t).length).t0 } : PTerm) = prTerm F t := by
 unfold trK prTerm endsOf
 simp [h1, h2, ith]
def mixP (F : PFunc) (i k : Nat) (l : List PPhi) : List PPhi := (l.take k).map (prPhi F i) ++ l.drop k
section
variable {F : PFunc} {i k : Nat} {l : List PPhi}
theorem mixP_zero : mixP F i 0 l = l := rfl
theorem mixP_len : (mixP F i k l).length = l.length := by
 unfold mixP
 rw [List.length_append, List.length_map, List.length_take, List.length_drop]
 omega
theorem mixP_at (h : k < l.length) : (mixP F i k l)[k]? = some (l.getD k default) := by
 unfold mixP
 rw [List.getElem?_append_right ZX]
 simp [List.length_take, Nat.min_eq_left (Nat.le_of_lt h), List.getD, h]
theorem mixP_set (h : k < l.length) : (mixP F i k l).set k (prPhi F i (l.getD k default)) = mixP F i (k + 1) l := by
 unfold mixP
 have h1 : ((l.take k).map (prPhi F i)).length = k := by simp; omega
 rw [List.set_append_right _ _ ZO, h1, Nat.sub_self, List.drop_eq_getElem_cons h, List.set_cons_zero, List.take_add_one, List.getElem?_eq_getElem h, List.map_append]
 simp [List.getD, h]
theorem mixP_end : mixP F i l.length l = l.map (prPhi F i) := by simp [mixP]
theorem keep_eq (hT : typedP F = true) (hi : i < F.blocks.length) {a : Int} (h0 : 0 ≤ a) (h1 : a < F.blocks.length) {nums : List Int} (hn : ith nums a.toNat = if thB F a.toNat = true then (numP F a.toNat : Int) else -1) : keepF F i a = (((predsOf F).getD i []).contains a && decide (0 ≤ ith nums a.toNat)) := by
 have hr : (predsOf F).getD i [] = ints (predRow F i F.blocks.length) := predsF_row hT hi _ (Nat.le_refl _)
 rw [hr, hn, Bool.eq_iff_iff, show keepF F i a = true ↔ leads (F.blk a.toNat).term (i : Int) = true ∧ thB F a.toNat = true from (by unfold keepF; rw [Bool.and_eq_true]), Bool.and_eq_true]
 have hm : (ints (predRow F i F.blocks.length)).contains a = true ↔ leads (F.blk a.toNat).term (i : Int) = true := by
  rw [List.contains_iff_mem]
  unfold ints
  rw [List.mem_map]
  constructor
  · rintro ⟨b, hb, rfl⟩
    exact (predRow_mem.1 hb).2
  · intro h
    exact ⟨a.toNat, predRow_mem.2 ⟨ZO, h⟩, ZX⟩
 rw [hm]
 cases thB F a.toNat <;> simp
end
theorem setCells_three {w : World} {b o : Nat} {x y z : Value} : w.setCells b o [x, y, z] = ((w.setCell ⟨b, o, none⟩ x).setCell ⟨b, o + 1, none⟩ y).setCell ⟨b, o + 2, none⟩ z := rfl
theorem phi_put {w : World} {base b9 g n cap k : Nat} {xs : List PPhi} {x' : PPhi} {v9 v10 : Value} (h : RRow w base 66 3 (CPh w) (.slice (some ⟨g, 0, none⟩) n cap) xs) (hk : k < xs.length) (hT : Two w b9 v10 x'.froms v9 x'.args) (ha : x'.args.length ≤ 1048576) (hf : x'.froms.length ≤ 1048576) :
 RRow (w.setCells g (k * 3) [.int .i64 x'.dst, v9, v10]) base 66 3 (CPh (w.setCells g (k * 3) [.int .i64 x'.dst, v9, v10])) (.slice (some ⟨g, 0, none⟩) n cap) (xs.set k x') := by
 rw [setCells_three]
 obtain ⟨cells, hO⟩ := h.own
 obtain ⟨A, c1, hv⟩ := h.form
 simp only [Value.slice.injEq] at hv
 obtain ⟨-, rfl, -⟩ := hv
 obtain ⟨cur, hbox⟩ := own_box hO
 have hKT := (((KT.refl (ts := [3]) (w := w)).setCell hbox ZS (j := k * 3) (.int .i64 x'.dst)).setCell (hbox.set (k * 3) _) ZS (j := k * 3 + 1) v9).setCell ((hbox.set (k * 3) _).set (k * 3 + 1) _) ZS (j := k * 3 + 2) v10
 have q1 := own_kt hT.2.1 hKT ZS
 have q2 := own_kt hT.1 hKT ZS
 exact RRow.put3 h hk (fun _ _ h => CPh.kt hKT ZS h) ⟨v9, v10, rfl, DInts.of_own q1 ha (own_nt q1 ZS), DInts.of_own q2 hf (own_nt q2 ZS)⟩
theorem kp_put {w a : World} {g o n cap : Nat} {x y z : Value} (h : Kp (fun b => (Value.slice (some ⟨g, 0, none⟩) n cap).ownBlock ≠ some b) a w) : Kp (fun b => (Value.slice (some ⟨g, 0, none⟩) n cap).ownBlock ≠ some b) a (w.setCells g o [x, y, z]) := by
 rw [setCells_three]
 have hg : ¬ (Value.slice (some ⟨g, 0, none⟩) n cap).ownBlock ≠ some g := fun h => h rfl
 exact ((h.setCell (p := ⟨g, o, none⟩) hg x).setCell (p := ⟨g, o + 1, none⟩) hg y).setCell (p := ⟨g, o + 2, none⟩) hg z
theorem KT.of_box {w w' : World} {gb : Nat} {cs : Array Value} (hk : Kp (fun b => b ≠ gb) w w') (hbx : BoxAt w gb cs 52) : KT [3, 55, 66, 63] w w' := ⟨hk.size, fun b hb => hk.blk b (by
 rintro rfl
 obtain ⟨cs', t', e1, e2⟩ := hb
 unfold BoxAt at hbx
 rw [hbx] at e1
 cases e1
 exact absurd e2 ZD) hb.lt⟩
def prCells (F : PFunc) (i : Nat) (vx vy : Value) : List Value := [.string (F.blk i).name, vx, vy, .int .i64 (F.blk i).term.kind, .int .i64 (F.blk i).term.var, .int .i64 (prTerm F (F.blk i).term).t0, .int .i64 (prTerm F (F.blk i).term).t1]
theorem prTerm_kind {F : PFunc} {t : PTerm} : (prTerm F t).kind = t.kind ∧ (prTerm F t).var = t.var := by
 unfold prTerm
 split
 · exact ⟨rfl, rfl⟩
 · split <;> exact ⟨rfl, rfl⟩
theorem PrI.snoc {F : PFunc} {wN wz w3 : World} {g9 i : Nat} {v0 v1 vbs vq v' vx vy : Value} {ps qs : List (PBlock × Value × Value)} {cellsq : List Value} (h : PrI F wN wz g9 v0 v1 vbs ps (prBlks F i) (i + 1) vq qs) (hth : thB F i = true)
 (hpi : ps[i]? = some (F.blk i, vx, vy)) (hpw : ps.Pairwise Before) (hOq : wz.ownsRow wN.heap.size 52 7 vq qs.length cellsq) (hown3 : w3.ownsRow wN.heap.size 52 7 v' (qs.length + 1) (cellsq ++ prCells F i vx vy))
 (hgg : (wz.alloc (.cells (prCells F i vx vy).toArray 52)).grownBy w3 vq.ownBlock) (hR : RRow wz wN.heap.size 66 3 (CPh wz) vx ((F.blk i).phis.map (prPhi F i))) (hI : RRow wz wN.heap.size 55 4 (CIn wz) vy (F.blk i).insts)
 (hnz : (F.blk i).name.size ≤ maxLen) (hvb : ∀ k, vbs.ownBlock = some k → vq.ownBlock ≠ some k) (hg9 : wN.heap.size ≤ g9) :
 PrI F wN (w3.setCell ⟨g9, 2, none⟩ v') g9 v0 v1 vbs ps (prBlks F (i + 1)) (i + 1) v' (qs ++ [(prBlk F i, vx, vy)]) := by
 have hgo3 : BoxAt w3 g9 #[v0, v1, vq] 26 := (h.box.alloc _).grown hgg (own_box_ne hOq h.box ZD)
 have hK : KT [3, 66, 55, 63] wz (w3.setCell ⟨g9, 2, none⟩ v') := ((KT.refl.alloc _).grown (hOq.alloc _) ZS hgg).setCell hgo3 ZS _
 have hil : i < ps.length := (List.getElem?_eq_some_iff.1 hpi).1
 have hip : ps[i] = (F.blk i, vx, vy) := (List.getElem?_eq_some_iff.1 hpi).2
 refine ⟨by rw [List.map_append, h.map, prBlks_yes hth]; rfl, fun q hq j p hj hp => ?_, by simpa using hgo3.set 2 v', h.hV.kt hK ZS (fun _ _ h => h), own_kt h.hI hK ZS, ?_, ?_, fun j q hj hq => ⟨(h.el j q hj hq).1.kt hK ZS (fun _ _ h => h.kt hK ZS), (h.el j q hj hq).2.kt hK ZS (fun _ _ h => h.kt hK ZS)⟩, ?_⟩
 · rcases List.mem_append.1 hq with hq | hq
   · exact h.far q hq j p hj hp
   · rw [List.mem_singleton] at hq
     subst hq
     have hjl : j < ps.length := (List.getElem?_eq_some_iff.1 hp).1
     have hjp : ps[j] = p := (List.getElem?_eq_some_iff.1 hp).2
     have hbe := List.pairwise_iff_getElem.1 hpw i j hil hjl ZO
     rw [hip, hjp] at hbe
     exact ⟨hbe.1, hbe.2⟩
 · refine RRow.snoc (cs := prCells F i vx vy) h.hq hOq (ownsRow_setCell_other hown3 (fun e => own_box_ne hown3 hgo3 ZD e) _) rfl (fun _ _ hc => CBO.kt hK ZS ZS ZS hc) ?_
   refine ⟨?_, hnz, hR.kt hK ZS (fun _ _ h => h.kt hK ZS), hI.kt hK ZS (fun _ _ h => h.kt hK ZS)⟩
   show prCells F i vx vy = [.string (F.blk i).name, vx, vy, .int .i64 (prTerm F (F.blk i).term).kind, .int .i64 (prTerm F (F.blk i).term).var, .int .i64 (prTerm F (F.blk i).term).t0, .int .i64 (prTerm F (F.blk i).term).t1]
   rw [prTerm_kind.1, prTerm_kind.2]
   rfl
 · obtain ⟨cellsp, hOp⟩ := h.hp.own
   refine h.hp.turn (fun k e => ?_) (fun _ _ h => h)
   have hkl := (h.hp.lt e).2
   exact (heap_set (fun e2 => by subst e2; exact own_box_ne hOp h.box ZD e)).trans ((hgg.block k ZX (fun e2 => hvb k e e2.symm)).trans (heap_alloc_old wz _ hkl))
 · exact ((h.bel.alloc h.bel.size _).grown hgg (by have := h.bel.size; simp; omega) (fun k e => (own_lt hOq e).1)).setCell hg9 _
theorem BoxAt.put6 {w : World} {g : Nat} {t : TypeId} {a0 a1 a2 a3 a4 a5 a6 z : Value} (h : BoxAt w g #[a0, a1, a2, a3, a4, a5, a6] t) : BoxAt (w.setCell ⟨g, 6, none⟩ z) g #[a0, a1, a2, a3, a4, a5, z] t := by
 simpa using h.set 6 z
end Go.Proofs.YtjdkcichkpolgaaGreatDoor
