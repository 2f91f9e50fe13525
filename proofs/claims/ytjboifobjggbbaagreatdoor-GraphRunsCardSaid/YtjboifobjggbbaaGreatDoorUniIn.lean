/- From what an argument reads as to what lies in memory: a run's input; a program all of whose numbers lie within an int64. -/
import Derived.Test.YtjboifobjggbbaaGreatDoorUni
import Derived.Test.YtjboifobjggbbaaGreatDoorRunB
namespace Go.Proofs.YtjboifobjggbbaaGreatDoor
open Go.RowKit Go.Deep Go.ChangeShapes Go.WideShapes
set_option maxRecDepth 100000
theorem i64_of_wf {n : Int} (h : (Lit.int .i64 n).wf = true) : I64 n := by
 simp [Lit.wf, IntKind.min, IntKind.max, IntKind.signed, IntKind.bits] at h
 exact h
section
variable {α : Type} {B sz : Nat} {v : Value} {xs : List α} {R : Nat → Nat → α → Prop} {p : α → Prop}
theorem Sl.all (h : Sl B v xs sz fun b o x => R b o x ∧ p x) : Sl B v xs sz R ∧ ∀ x ∈ xs, p x := by
 refine ⟨h.keep (Nat.le_refl _) fun _ _ _ _ hx => hx.1, fun x hx => ?_⟩
 obtain ⟨A, c, -, -, -, hr⟩ := h
 obtain ⟨i, hi⟩ := List.getElem?_of_mem hx
 obtain ⟨b, off, -, -, h2⟩ := hr i x hi
 exact h2.2
end
section
variable {H : Type} {enc : TypeId × Value → H} {W : World} {sp : Nat → Bool} {held : Bool}
theorem read_instsN {fuel : Nat} {v : Value} {y : DataW H × List MemPlace} (h : DataW.trod enc Tryz.prog W 0 sp held fuel 64 [v] = some y) (hw : Wt 64 y.1) : ∃ xs, SInsts W W.heap.size v xs ∧ ∀ x ∈ xs, I64 x.num := by
 obtain ⟨xs, hx⟩ := read_slice Tryz.underlying64 Tryz.cellsN.2.2.1 ZD Tryz.bytes8.2.2.2.1 (fun b o x => InstC W W.heap.size b o x ∧ I64 x.num) (fun b off cs n y _ hl hcell hy hw => by
  obtain ⟨y0, y1, y2, y3, m, hx, -, h0, h1, h2, h3⟩ := Joins.trod_struct4 Tryz.underlying87 hy
  rw [hx] at hw
  replace hw := hw.struct Tryz.underlying87
  simp only [List.map_cons, List.map_nil, DataW.weightsEach, List.append_nil] at hw
  match cs, hl with
  | [c0, c1, c2, c3], _ =>
   simp only [Tryz.cells1.2.2.2.2.1, List.drop_zero, List.take_succ_cons, List.take_zero] at h0
   simp only [Tryz.cells1.1, List.drop_succ_cons, List.drop_zero, List.take_succ_cons, List.take_zero] at h1
   simp only [Tryz.cells1.2.2.2.1, List.drop_succ_cons, List.drop_zero, List.take_succ_cons, List.take_zero] at h2
   simp only [Tryz.cells1.2.2.2.2.2.1, List.drop_succ_cons, List.drop_zero, List.take_succ_cons, List.take_zero] at h3
   obtain ⟨o, e0, -, -⟩ := DataW.trod_int Tryz.underlying85 h0
   obtain ⟨d, e1, -, -⟩ := DataW.trod_int Tryz.underlying3 h1
   obtain ⟨k, e3, -, hk⟩ := DataW.trod_int Tryz.underlying2 h3
   simp only [List.cons.injEq, and_true] at e0 e1 e3
   subst e0 e1 e3
   obtain ⟨al, ha⟩ := read_ints h2 (fun x hx => hw x (List.mem_append_right _ (List.mem_append_right _ (List.mem_append_left _ hx))))
   exact ⟨⟨o, d, al, k⟩, ⟨hcell 0 ZD, hcell 1 ZD, ⟨_, hcell 2 ZD, ha⟩, hcell 3 ZD⟩, i64_of_wf hk⟩) h hw
 exact ⟨xs, hx.all⟩
theorem read_blksN {fuel : Nat} {v : Value} {y : DataW H × List MemPlace} (h : DataW.trod enc Tryz.prog W 0 sp held fuel 24 [v] = some y) (hw : Wt 24 y.1) : ∃ xs, SBlks W W.heap.size v xs ∧ ∀ b ∈ xs, ∀ x ∈ b.insts, I64 x.num := by
 obtain ⟨xs, hx⟩ := read_slice Tryz.underlying24 Tryz.cellsN.2.2.2.2.2.1 ZD Tryz.bytes8.2.2.2.2 (fun b o x => BlkC W W.heap.size b o x ∧ ∀ i ∈ x.insts, I64 i.num) (fun b off cs n y _ hl hcell hy hw => by
  obtain ⟨y0, y1, y2, y3, m, hx, -, h0, h1, h2, h3⟩ := Joins.trod_struct4 Tryz.underlying70 hy
  rw [hx] at hw
  replace hw := hw.struct Tryz.underlying70
  simp only [List.map_cons, List.map_nil, DataW.weightsEach, List.append_nil] at hw
  match cs, hl with
  | [c0, c1, c2, c3, c4, c5, c6], _ =>
   simp only [Tryz.cells1.2.1, List.drop_zero, List.take_succ_cons, List.take_zero] at h0
   simp only [Tryz.cells1.2.2.2.2.2.2.1, List.drop_succ_cons, List.drop_zero, List.take_succ_cons, List.take_zero] at h1
   simp only [Tryz.cells1.2.2.2.2.2.2.2.1, List.drop_succ_cons, List.drop_zero, List.take_succ_cons, List.take_zero] at h2
   simp only [Tryz.cellsN.2.2.2.1, List.drop_succ_cons, List.drop_zero, List.take_succ_cons, List.take_zero] at h3
   obtain ⟨s, e0, -, hs⟩ := DataW.trod_string Tryz.underlying9 h0
   simp only [List.cons.injEq, and_true] at e0
   subst e0
   obtain ⟨ps, hp⟩ := read_phis h1 (fun x hx => hw x (List.mem_append_right _ (List.mem_append_left _ hx)))
   obtain ⟨is, hi, hin⟩ := read_instsN h2 (fun x hx => hw x (List.mem_append_right _ (List.mem_append_right _ (List.mem_append_left _ hx))))
   obtain ⟨t, rfl, rfl, rfl, rfl⟩ := read_term h3
   exact ⟨⟨s, ps, is, t⟩, ⟨hs, hcell 0 ZD, ⟨_, hcell 1 ZD, hp⟩, ⟨_, hcell 2 ZD, hi⟩, hcell 3 ZD, hcell 4 ZD, hcell 5 ZD, hcell 6 ZD⟩, hin⟩) h hw
 exact ⟨xs, hx.all⟩
theorem read_fnN {r : Reach} {b0 : Nat} {v : Value} {d : DataW H} {p : List MemPlace} (hv : Value.okWide Tryz.prog W r b0 26 v) (h : DataW.Trod enc Tryz.prog W 0 sp held 26 v d p) (hw : Wt 26 d) : ∃ F, FnV W W.heap.size v F ∧ NumsR F := by
 obtain ⟨v0, v1, v2, y0, y1, y2, n, rfl, hx, -, h0, h1, h2⟩ := Joins.open_agg3 Tryz.underlying26 ZK Tryz.cellsN.2.2.2.2.2.2 hv h
 rw [hx] at hw
 replace hw := hw.struct Tryz.underlying26
 simp only [List.map_cons, List.map_nil, DataW.weightsEach, List.append_nil] at hw
 obtain ⟨vs, hvs⟩ := read_vars h0 (fun x hx => hw x (List.mem_append_left _ hx))
 obtain ⟨ps, hps⟩ := read_ints h1 (fun x hx => hw x (List.mem_append_right _ (List.mem_append_left _ hx)))
 obtain ⟨bs, hbs, hn⟩ := read_blksN h2 (fun x hx => hw x (List.mem_append_right _ (List.mem_append_right _ hx)))
 exact ⟨⟨vs, ps, bs⟩, ⟨_, _, _, rfl, hvs, hps, hbs⟩, hn⟩
theorem Tryz.cellsI : (Tryz.prog).cellsOf 96 = 3 ∧ (Tryz.prog).cellsOf 4 = 1 ∧ (Tryz.prog).cellsOf 38 = 2 ∧ (Tryz.prog).cellsOf 45 = 1 ∧ (Tryz.prog).cellsOf 35 = 1 ∧ (Tryz.prog).cellsOf 36 = 1 := by
 refine ⟨?_, ?_, ?_, ?_, ?_, ?_⟩ <;> kernel_rfl
theorem Tryz.bytesI : 8 ≤ (Tryz.prog).bytesOf 2 ∧ 8 ≤ (Tryz.prog).bytesOf 96 ∧ 8 ≤ (Tryz.prog).bytesOf 45 := by
 refine ⟨?_, ?_, ?_⟩ <;> exact of_decide_eq_true ZK
theorem read_i64s {fuel : Nat} {v : Value} {y : DataW H × List MemPlace} (h : DataW.trod enc Tryz.prog W 0 sp held fuel 45 [v] = some y) (hw : Wt 45 y.1) : ∃ xs, SInts W W.heap.size v xs ∧ ∀ x ∈ xs, I64 x := by
 obtain ⟨xs, hx⟩ := read_slice Tryz.underlying45 Tryz.cells1.2.2.2.2.2.1 ZD Tryz.bytesI.1 (fun b o x => IntC W b o x ∧ I64 x) (fun b off cs n y _ _ hcell hy _ => by
  obtain ⟨x, rfl, -, hx⟩ := DataW.trod_int Tryz.underlying2 hy
  exact ⟨x, hcell 0 ZD, i64_of_wf hx⟩) h hw
 exact ⟨xs, hx.all⟩
theorem read_rows {fuel : Nat} {v : Value} {y : DataW H × List MemPlace} (h : DataW.trod enc Tryz.prog W 0 sp held fuel 36 [v] = some y) (hw : Wt 36 y.1) : ∃ xs, Sl W.heap.size v xs 1 (RowC W W.heap.size) ∧ ∀ r ∈ xs, ∀ x ∈ r, I64 x := by
 obtain ⟨xs, hx⟩ := read_slice Tryz.underlying36 Tryz.cellsI.2.2.2.1 ZD Tryz.bytesI.2.2 (fun b o x => RowC W W.heap.size b o x ∧ ∀ i ∈ x, I64 i) (fun b off cs n y _ hl hcell hy hw => by
  match cs, hl with
  | [c0], _ =>
   obtain ⟨xs, h1, h2⟩ := read_i64s hy hw
   exact ⟨xs, ⟨c0, hcell 0 ZD, h1⟩, h2⟩) h hw
 exact ⟨xs, hx.all⟩
theorem read_args {fuel : Nat} {v : Value} {y : DataW H × List MemPlace} (h : DataW.trod enc Tryz.prog W 0 sp held fuel 35 [v] = some y) (hw : Wt 35 y.1) : ∃ xs, Sl W.heap.size v xs 3 (ArgC W) ∧ ∀ x ∈ xs, I64 x.int := by
 obtain ⟨xs, hx⟩ := read_slice Tryz.underlying35 Tryz.cellsI.1 ZD Tryz.bytesI.2.1 (fun b o x => ArgC W b o x ∧ I64 x.int) (fun b off cs n y _ hl hcell hy hw => by
  obtain ⟨y0, y1, y2, m, -, -, h0, h1, h2⟩ := trod_struct3 Tryz.underlying96 hy
  match cs, hl with
  | [c0, c1, c2], _ =>
   simp only [Tryz.cells1.2.2.2.2.2.1, List.drop_zero, List.take_succ_cons, List.take_zero] at h0
   simp only [Tryz.cellsI.2.1, List.drop_succ_cons, List.drop_zero, List.take_succ_cons, List.take_zero] at h1
   simp only [Tryz.cells1.1, List.drop_succ_cons, List.drop_zero, List.take_succ_cons, List.take_zero] at h2
   obtain ⟨i, e0, -, hi⟩ := DataW.trod_int Tryz.underlying2 h0
   obtain ⟨b, e1, -⟩ := DataW.trod_bool Tryz.underlying4 h1
   obtain ⟨a, e2, -, -⟩ := DataW.trod_int Tryz.underlying3 h2
   simp only [List.cons.injEq, and_true] at e0 e1 e2
   subst e0 e1 e2
   exact ⟨⟨i, b, a⟩, ⟨hcell 0 ZD, hcell 1 ZD, hcell 2 ZD⟩, i64_of_wf hi⟩) h hw
 exact ⟨xs, hx.all⟩
theorem read_in {r : Reach} {b0 : Nat} {v : Value} {d : DataW H} {p : List MemPlace} (hv : Value.okWide Tryz.prog W r b0 38 v) (h : DataW.Trod enc Tryz.prog W 0 sp held 38 v d p) (hw : Wt 38 d) : ∃ I, InV W W.heap.size v I ∧ InNum I := by
 obtain ⟨v0, v1, y0, y1, n, rfl, hx, -, h0, h1⟩ := Joins.open_agg2 Tryz.underlying38 ZK Tryz.cellsI.2.2.1 hv h
 rw [hx] at hw
 replace hw := hw.struct Tryz.underlying38
 simp only [List.map_cons, List.map_nil, DataW.weightsEach, List.append_nil] at hw
 obtain ⟨as_, ha, ha2⟩ := read_args h0 (fun x hx => hw x (List.mem_append_left _ hx))
 obtain ⟨rs, hr, hr2⟩ := read_rows h1 (fun x hx => hw x (List.mem_append_right _ hx))
 exact ⟨⟨as_, rs⟩, ⟨_, _, rfl, ha, hr⟩, ha2, hr2⟩
theorem read_u16 {r : Reach} {b0 : Nat} {v : Value} {d : DataW H} {p : List MemPlace} (hv : Value.okWide Tryz.prog W r b0 39 v) (h : DataW.Trod enc Tryz.prog W 0 sp held 39 v d p) : ∃ n : Nat, v = .int .u16 n ∧ n < 65536 := by
 obtain ⟨k, rfl⟩ := okWide_int Tryz.underlying39 hv
 obtain ⟨fuel, hf⟩ := h
 obtain ⟨n, e, -, hn⟩ := DataW.trod_int Tryz.underlying39 (by simpa [Value.cells] using hf)
 simp only [List.cons.injEq, and_true, Value.int.injEq, true_and] at e
 subst e
 simp [Lit.wf, IntKind.min, IntKind.max, IntKind.signed, IntKind.bits] at hn
 exact ⟨k.toNat, by rw [Int.toNat_of_nonneg hn.1], ZO⟩
end
end Go.Proofs.YtjboifobjggbbaaGreatDoor
