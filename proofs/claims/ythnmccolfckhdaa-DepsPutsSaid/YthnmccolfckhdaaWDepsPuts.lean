/- The law DepsPuts: what is put in is had, what is taken out is not, and no other replica's slots change. -/
import Derived.Test.YthnmccolfckhdaaDepsIs
import Derived.Test.YthnmccolfckhdaaDepsB
import Derived.Deep.RegionHeld3
import Derived.Deep.DeepCutAuto
import Derived.Deep.CutBlock
namespace Go.Proofs.Ythnmccolfckhdaa
open Go.RowKit
set_option linter.unusedSimpArgs false
set_option linter.unusedVariables false
attribute [local go_sem] eqDeps max2_int max_two min2_int min_two idxDeps Ext.cell Ext.frozen Ext.cell_set szlt1 szlt2 szlt3 szlt4 szlt5 szlt6
attribute [local simp] szlt1 szlt2 szlt3 szlt4 szlt5 szlt6

abbrev PBc (w W : World) (a0 a1 a2 a3 a4 a5 a6 r s : Int) : Prop := W.cell? ⟨w.heap.size, 0, none⟩ = some (.int .i64 a0) ∧ W.cell? ⟨w.heap.size, 1, none⟩ = some (.int .i64 a1) ∧ W.cell? ⟨w.heap.size, 2, none⟩ = some (.int .i64 a2) ∧ W.cell? ⟨w.heap.size, 3, none⟩ = some (.int .i64 a3) ∧ W.cell? ⟨w.heap.size, 4, none⟩ = some (.int .i64 a4) ∧ W.cell? ⟨w.heap.size, 5, none⟩ = some (.int .i64 a5) ∧ W.cell? ⟨w.heap.size, 6, none⟩ = some (.int .i64 a6) ∧ W.cell? ⟨w.heap.size + 1, 0, none⟩ = some (.int .i64 r) ∧ W.cell? ⟨w.heap.size + 1, 1, none⟩ = some (.int .i64 s)
theorem pb_below {w W W' : World} {a0 a1 a2 a3 a4 a5 a6 r s : Int} (h : PBc w W a0 a1 a2 a3 a4 a5 a6 r s) (hb : Below W.heap.size W W') : PBc w W' a0 a1 a2 a3 a4 a5 a6 r s := by
  obtain ⟨k0, k1, k2, k3, k4, k5, k6, k7, k8⟩ := h
  exact ⟨(hb.cell (World.block_lt_of_cell? W _ k0)).trans k0, (hb.cell (World.block_lt_of_cell? W _ k1)).trans k1, (hb.cell (World.block_lt_of_cell? W _ k2)).trans k2, (hb.cell (World.block_lt_of_cell? W _ k3)).trans k3, (hb.cell (World.block_lt_of_cell? W _ k4)).trans k4, (hb.cell (World.block_lt_of_cell? W _ k5)).trans k5, (hb.cell (World.block_lt_of_cell? W _ k6)).trans k6, (hb.cell (World.block_lt_of_cell? W _ k7)).trans k7, (hb.cell (World.block_lt_of_cell? W _ k8)).trans k8⟩
theorem pb_alloc {w W : World} {a0 a1 a2 a3 a4 a5 a6 r s : Int} (o : Obj) (h : PBc w W a0 a1 a2 a3 a4 a5 a6 r s) : PBc w (W.alloc o) a0 a1 a2 a3 a4 a5 a6 r s := pb_below h ((Below.refl _ _).alloc (Nat.le_refl _) _)
theorem pb_set {w W : World} {a0 a1 a2 a3 a4 a5 a6 r s : Int} (b i : Nat) (v : Value) (h : PBc w W a0 a1 a2 a3 a4 a5 a6 r s) (h1 : w.heap.size ≠ b) (h2 : w.heap.size + 1 ≠ b) : PBc w (W.setCell ⟨b, i, none⟩ v) a0 a1 a2 a3 a4 a5 a6 r s := by
  obtain ⟨k0, k1, k2, k3, k4, k5, k6, k7, k8⟩ := h
  exact ⟨(World.cell?_setCell_far W _ _ v (fun e => h1 e.symm)).trans k0, (World.cell?_setCell_far W _ _ v (fun e => h1 e.symm)).trans k1, (World.cell?_setCell_far W _ _ v (fun e => h1 e.symm)).trans k2, (World.cell?_setCell_far W _ _ v (fun e => h1 e.symm)).trans k3, (World.cell?_setCell_far W _ _ v (fun e => h1 e.symm)).trans k4, (World.cell?_setCell_far W _ _ v (fun e => h1 e.symm)).trans k5, (World.cell?_setCell_far W _ _ v (fun e => h1 e.symm)).trans k6, (World.cell?_setCell_far W _ _ v (fun e => h2 e.symm)).trans k7, (World.cell?_setCell_far W _ _ v (fun e => h2 e.symm)).trans k8⟩
theorem pb_drew {w W : World} {a0 a1 a2 a3 a4 a5 a6 r s : Int} (h : PBc w W a0 a1 a2 a3 a4 a5 a6 r s) : PBc w W.drew a0 a1 a2 a3 a4 a5 a6 r s := pb_below h (Below.refl _ _).drew
theorem pb_ext {w W : World} {a0 a1 a2 a3 a4 a5 a6 r s : Int} (X : Ext W) (h : PBc w W a0 a1 a2 a3 a4 a5 a6 r s) : PBc w X.w a0 a1 a2 a3 a4 a5 a6 r s := pb_below h X.below

theorem off_other (W : World) (g i j : Nat) (v : Value) (h : i ≠ j) : (W.setCell ⟨g, i, none⟩ v).cell? ⟨g, j, none⟩ = W.cell? ⟨g, j, none⟩ := by
  rw [World.cell?_setCell_other]
  intro e
  injection e with e1 e2 e3
  exact h e2
theorem c7_set7 {W : World} {g : Nat} {u0 u1 u2 u3 u4 u5 u6 : Int} (h : (W.cell? ⟨g, 0, none⟩).isSome = true ∧ (W.cell? ⟨g, 1, none⟩).isSome = true ∧ (W.cell? ⟨g, 2, none⟩).isSome = true ∧ (W.cell? ⟨g, 3, none⟩).isSome = true ∧ (W.cell? ⟨g, 4, none⟩).isSome = true ∧ (W.cell? ⟨g, 5, none⟩).isSome = true ∧ (W.cell? ⟨g, 6, none⟩).isSome = true) : (((((((W.setCell ⟨g, 0, none⟩ (.int .i64 u0)).setCell ⟨g, 1, none⟩ (.int .i64 u1)).setCell ⟨g, 2, none⟩ (.int .i64 u2)).setCell ⟨g, 3, none⟩ (.int .i64 u3)).setCell ⟨g, 4, none⟩ (.int .i64 u4)).setCell ⟨g, 5, none⟩ (.int .i64 u5)).setCell ⟨g, 6, none⟩ (.int .i64 u6)).cell? ⟨g, 0, none⟩ = some (.int .i64 u0) ∧ (((((((W.setCell ⟨g, 0, none⟩ (.int .i64 u0)).setCell ⟨g, 1, none⟩ (.int .i64 u1)).setCell ⟨g, 2, none⟩ (.int .i64 u2)).setCell ⟨g, 3, none⟩ (.int .i64 u3)).setCell ⟨g, 4, none⟩ (.int .i64 u4)).setCell ⟨g, 5, none⟩ (.int .i64 u5)).setCell ⟨g, 6, none⟩ (.int .i64 u6)).cell? ⟨g, 1, none⟩ = some (.int .i64 u1) ∧ (((((((W.setCell ⟨g, 0, none⟩ (.int .i64 u0)).setCell ⟨g, 1, none⟩ (.int .i64 u1)).setCell ⟨g, 2, none⟩ (.int .i64 u2)).setCell ⟨g, 3, none⟩ (.int .i64 u3)).setCell ⟨g, 4, none⟩ (.int .i64 u4)).setCell ⟨g, 5, none⟩ (.int .i64 u5)).setCell ⟨g, 6, none⟩ (.int .i64 u6)).cell? ⟨g, 2, none⟩ = some (.int .i64 u2) ∧ (((((((W.setCell ⟨g, 0, none⟩ (.int .i64 u0)).setCell ⟨g, 1, none⟩ (.int .i64 u1)).setCell ⟨g, 2, none⟩ (.int .i64 u2)).setCell ⟨g, 3, none⟩ (.int .i64 u3)).setCell ⟨g, 4, none⟩ (.int .i64 u4)).setCell ⟨g, 5, none⟩ (.int .i64 u5)).setCell ⟨g, 6, none⟩ (.int .i64 u6)).cell? ⟨g, 3, none⟩ = some (.int .i64 u3) ∧ (((((((W.setCell ⟨g, 0, none⟩ (.int .i64 u0)).setCell ⟨g, 1, none⟩ (.int .i64 u1)).setCell ⟨g, 2, none⟩ (.int .i64 u2)).setCell ⟨g, 3, none⟩ (.int .i64 u3)).setCell ⟨g, 4, none⟩ (.int .i64 u4)).setCell ⟨g, 5, none⟩ (.int .i64 u5)).setCell ⟨g, 6, none⟩ (.int .i64 u6)).cell? ⟨g, 4, none⟩ = some (.int .i64 u4) ∧ (((((((W.setCell ⟨g, 0, none⟩ (.int .i64 u0)).setCell ⟨g, 1, none⟩ (.int .i64 u1)).setCell ⟨g, 2, none⟩ (.int .i64 u2)).setCell ⟨g, 3, none⟩ (.int .i64 u3)).setCell ⟨g, 4, none⟩ (.int .i64 u4)).setCell ⟨g, 5, none⟩ (.int .i64 u5)).setCell ⟨g, 6, none⟩ (.int .i64 u6)).cell? ⟨g, 5, none⟩ = some (.int .i64 u5) ∧ (((((((W.setCell ⟨g, 0, none⟩ (.int .i64 u0)).setCell ⟨g, 1, none⟩ (.int .i64 u1)).setCell ⟨g, 2, none⟩ (.int .i64 u2)).setCell ⟨g, 3, none⟩ (.int .i64 u3)).setCell ⟨g, 4, none⟩ (.int .i64 u4)).setCell ⟨g, 5, none⟩ (.int .i64 u5)).setCell ⟨g, 6, none⟩ (.int .i64 u6)).cell? ⟨g, 6, none⟩ = some (.int .i64 u6) := by
  obtain ⟨h0, h1, h2, h3, h4, h5, h6⟩ := h
  refine ⟨?_, ?_, ?_, ?_, ?_, ?_, ?_⟩
  all_goals (repeat rw [off_other _ _ _ _ _ (by decide)])
  all_goals (refine World.cell?_setCell_same' _ _ _ ?_; (repeat rw [off_other _ _ _ _ _ (by decide)]); assumption)
theorem c7_alloc {W : World} {g : Nat} {u0 u1 u2 u3 u4 u5 u6 : Int} (o : Obj) (h : W.cell? ⟨g, 0, none⟩ = some (.int .i64 u0) ∧ W.cell? ⟨g, 1, none⟩ = some (.int .i64 u1) ∧ W.cell? ⟨g, 2, none⟩ = some (.int .i64 u2) ∧ W.cell? ⟨g, 3, none⟩ = some (.int .i64 u3) ∧ W.cell? ⟨g, 4, none⟩ = some (.int .i64 u4) ∧ W.cell? ⟨g, 5, none⟩ = some (.int .i64 u5) ∧ W.cell? ⟨g, 6, none⟩ = some (.int .i64 u6)) : (W.alloc o).cell? ⟨g, 0, none⟩ = some (.int .i64 u0) ∧ (W.alloc o).cell? ⟨g, 1, none⟩ = some (.int .i64 u1) ∧ (W.alloc o).cell? ⟨g, 2, none⟩ = some (.int .i64 u2) ∧ (W.alloc o).cell? ⟨g, 3, none⟩ = some (.int .i64 u3) ∧ (W.alloc o).cell? ⟨g, 4, none⟩ = some (.int .i64 u4) ∧ (W.alloc o).cell? ⟨g, 5, none⟩ = some (.int .i64 u5) ∧ (W.alloc o).cell? ⟨g, 6, none⟩ = some (.int .i64 u6) := by
  have hb : Below W.heap.size W (W.alloc o) := (Below.refl _ _).alloc (Nat.le_refl _) _
  obtain ⟨h0, h1, h2, h3, h4, h5, h6⟩ := h
  exact ⟨(hb.cell (World.block_lt_of_cell? W _ h0)).trans h0, (hb.cell (World.block_lt_of_cell? W _ h1)).trans h1, (hb.cell (World.block_lt_of_cell? W _ h2)).trans h2, (hb.cell (World.block_lt_of_cell? W _ h3)).trans h3, (hb.cell (World.block_lt_of_cell? W _ h4)).trans h4, (hb.cell (World.block_lt_of_cell? W _ h5)).trans h5, (hb.cell (World.block_lt_of_cell? W _ h6)).trans h6⟩
theorem c7_far {W : World} {g k : Nat} {u0 u1 u2 u3 u4 u5 u6 : Int} (v : Value) (i : Nat) (hk : k ≠ g) (h : W.cell? ⟨g, 0, none⟩ = some (.int .i64 u0) ∧ W.cell? ⟨g, 1, none⟩ = some (.int .i64 u1) ∧ W.cell? ⟨g, 2, none⟩ = some (.int .i64 u2) ∧ W.cell? ⟨g, 3, none⟩ = some (.int .i64 u3) ∧ W.cell? ⟨g, 4, none⟩ = some (.int .i64 u4) ∧ W.cell? ⟨g, 5, none⟩ = some (.int .i64 u5) ∧ W.cell? ⟨g, 6, none⟩ = some (.int .i64 u6)) : (W.setCell ⟨k, i, none⟩ v).cell? ⟨g, 0, none⟩ = some (.int .i64 u0) ∧ (W.setCell ⟨k, i, none⟩ v).cell? ⟨g, 1, none⟩ = some (.int .i64 u1) ∧ (W.setCell ⟨k, i, none⟩ v).cell? ⟨g, 2, none⟩ = some (.int .i64 u2) ∧ (W.setCell ⟨k, i, none⟩ v).cell? ⟨g, 3, none⟩ = some (.int .i64 u3) ∧ (W.setCell ⟨k, i, none⟩ v).cell? ⟨g, 4, none⟩ = some (.int .i64 u4) ∧ (W.setCell ⟨k, i, none⟩ v).cell? ⟨g, 5, none⟩ = some (.int .i64 u5) ∧ (W.setCell ⟨k, i, none⟩ v).cell? ⟨g, 6, none⟩ = some (.int .i64 u6) := by
  obtain ⟨h0, h1, h2, h3, h4, h5, h6⟩ := h
  exact ⟨(World.cell?_setCell_far W _ _ v hk).trans h0, (World.cell?_setCell_far W _ _ v hk).trans h1, (World.cell?_setCell_far W _ _ v hk).trans h2, (World.cell?_setCell_far W _ _ v hk).trans h3, (World.cell?_setCell_far W _ _ v hk).trans h4, (World.cell?_setCell_far W _ _ v hk).trans h5, (World.cell?_setCell_far W _ _ v hk).trans h6⟩
theorem s7_far {W : World} {g k : Nat} (v : Value) (i : Nat) (hk : k ≠ g) (h : (W.cell? ⟨g, 0, none⟩).isSome = true ∧ (W.cell? ⟨g, 1, none⟩).isSome = true ∧ (W.cell? ⟨g, 2, none⟩).isSome = true ∧ (W.cell? ⟨g, 3, none⟩).isSome = true ∧ (W.cell? ⟨g, 4, none⟩).isSome = true ∧ (W.cell? ⟨g, 5, none⟩).isSome = true ∧ (W.cell? ⟨g, 6, none⟩).isSome = true) : ((W.setCell ⟨k, i, none⟩ v).cell? ⟨g, 0, none⟩).isSome = true ∧ ((W.setCell ⟨k, i, none⟩ v).cell? ⟨g, 1, none⟩).isSome = true ∧ ((W.setCell ⟨k, i, none⟩ v).cell? ⟨g, 2, none⟩).isSome = true ∧ ((W.setCell ⟨k, i, none⟩ v).cell? ⟨g, 3, none⟩).isSome = true ∧ ((W.setCell ⟨k, i, none⟩ v).cell? ⟨g, 4, none⟩).isSome = true ∧ ((W.setCell ⟨k, i, none⟩ v).cell? ⟨g, 5, none⟩).isSome = true ∧ ((W.setCell ⟨k, i, none⟩ v).cell? ⟨g, 6, none⟩).isSome = true := by
  obtain ⟨h0, h1, h2, h3, h4, h5, h6⟩ := h
  exact ⟨(by rw [World.cell?_setCell_far W _ _ v hk]; exact h0), (by rw [World.cell?_setCell_far W _ _ v hk]; exact h1), (by rw [World.cell?_setCell_far W _ _ v hk]; exact h2), (by rw [World.cell?_setCell_far W _ _ v hk]; exact h3), (by rw [World.cell?_setCell_far W _ _ v hk]; exact h4), (by rw [World.cell?_setCell_far W _ _ v hk]; exact h5), (by rw [World.cell?_setCell_far W _ _ v hk]; exact h6)⟩

structure PutsBoxes (w W : World) (g h : Nat) (a0 a1 a2 a3 a4 a5 a6 u0 u1 u2 u3 u4 u5 u6 y0 y1 y2 y3 y4 y5 y6 r s : Int) : Prop where
  below : Below w.heap.size w W
  ga : w.heap.size < W.heap.size
  gi : w.heap.size + 1 < W.heap.size
  gg : g < W.heap.size
  gh : h < W.heap.size
  cb : PBc w W a0 a1 a2 a3 a4 a5 a6 r s
  cg : W.cell? ⟨g, 0, none⟩ = some (.int .i64 u0) ∧ W.cell? ⟨g, 1, none⟩ = some (.int .i64 u1) ∧ W.cell? ⟨g, 2, none⟩ = some (.int .i64 u2) ∧ W.cell? ⟨g, 3, none⟩ = some (.int .i64 u3) ∧ W.cell? ⟨g, 4, none⟩ = some (.int .i64 u4) ∧ W.cell? ⟨g, 5, none⟩ = some (.int .i64 u5) ∧ W.cell? ⟨g, 6, none⟩ = some (.int .i64 u6)
  ch : W.cell? ⟨h, 0, none⟩ = some (.int .i64 y0) ∧ W.cell? ⟨h, 1, none⟩ = some (.int .i64 y1) ∧ W.cell? ⟨h, 2, none⟩ = some (.int .i64 y2) ∧ W.cell? ⟨h, 3, none⟩ = some (.int .i64 y3) ∧ W.cell? ⟨h, 4, none⟩ = some (.int .i64 y4) ∧ W.cell? ⟨h, 5, none⟩ = some (.int .i64 y5) ∧ W.cell? ⟨h, 6, none⟩ = some (.int .i64 y6)
set_option maxHeartbeats 4000000 in
theorem walkDepsPuts (a0 a1 a2 a3 a4 a5 a6 r s : Int) (ha0 : -9223372036854775808 ≤ a0 ∧ a0 ≤ 9223372036854775807) (ha1 : -9223372036854775808 ≤ a1 ∧ a1 ≤ 9223372036854775807) (ha2 : -9223372036854775808 ≤ a2 ∧ a2 ≤ 9223372036854775807) (ha3 : -9223372036854775808 ≤ a3 ∧ a3 ≤ 9223372036854775807) (ha4 : -9223372036854775808 ≤ a4 ∧ a4 ≤ 9223372036854775807) (ha5 : -9223372036854775808 ≤ a5 ∧ a5 ≤ 9223372036854775807) (ha6 : -9223372036854775808 ≤ a6 ∧ a6 ≤ 9223372036854775807) (hr : -9223372036854775808 ≤ r ∧ r ≤ 9223372036854775807) (hs : -9223372036854775808 ≤ s ∧ s ≤ 9223372036854775807) (w : World) :
    Calls Try.prog 11 #[.agg #[.int .i64 a0, .int .i64 a1, .int .i64 a2, .int .i64 a3, .int .i64 a4, .int .i64 a5, .int .i64 a6], .agg #[.int .i64 r, .int .i64 s]] w fun e w' => e = .returned (.bool true) ∧ Below w.heap.size w w' := by
  clear ha0 ha1 ha2 ha3 ha4 ha5 ha6 hr
  have hs2 : s ≤ 9223372036854775807 := hs.2
  clear hs
  obtain ⟨u0, hu0⟩ : ∃ x : Int, x = (if r = 0 then max a0 s else a0) := ⟨_, rfl⟩
  obtain ⟨y0, hy0⟩ : ∃ x : Int, x = (if r = 0 ∧ 1 ≤ s then min a0 (s - 1) else a0) := ⟨_, rfl⟩
  obtain ⟨u1, hu1⟩ : ∃ x : Int, x = (if r = 1 then max a1 s else a1) := ⟨_, rfl⟩
  obtain ⟨y1, hy1⟩ : ∃ x : Int, x = (if r = 1 ∧ 1 ≤ s then min a1 (s - 1) else a1) := ⟨_, rfl⟩
  obtain ⟨u2, hu2⟩ : ∃ x : Int, x = (if r = 2 then max a2 s else a2) := ⟨_, rfl⟩
  obtain ⟨y2, hy2⟩ : ∃ x : Int, x = (if r = 2 ∧ 1 ≤ s then min a2 (s - 1) else a2) := ⟨_, rfl⟩
  obtain ⟨u3, hu3⟩ : ∃ x : Int, x = (if r = 3 then max a3 s else a3) := ⟨_, rfl⟩
  obtain ⟨y3, hy3⟩ : ∃ x : Int, x = (if r = 3 ∧ 1 ≤ s then min a3 (s - 1) else a3) := ⟨_, rfl⟩
  obtain ⟨u4, hu4⟩ : ∃ x : Int, x = (if r = 4 then max a4 s else a4) := ⟨_, rfl⟩
  obtain ⟨y4, hy4⟩ : ∃ x : Int, x = (if r = 4 ∧ 1 ≤ s then min a4 (s - 1) else a4) := ⟨_, rfl⟩
  obtain ⟨u5, hu5⟩ : ∃ x : Int, x = (if r = 5 then max a5 s else a5) := ⟨_, rfl⟩
  obtain ⟨y5, hy5⟩ : ∃ x : Int, x = (if r = 5 ∧ 1 ≤ s then min a5 (s - 1) else a5) := ⟨_, rfl⟩
  obtain ⟨u6, hu6⟩ : ∃ x : Int, x = (if r = 6 then max a6 s else a6) := ⟨_, rfl⟩
  obtain ⟨y6, hy6⟩ : ∃ x : Int, x = (if r = 6 ∧ 1 ≤ s then min a6 (s - 1) else a6) := ⟨_, rfl⟩
  have HV : Hid (Value.agg #[.int .i64 u0, .int .i64 u1, .int .i64 u2, .int .i64 u3, .int .i64 u4, .int .i64 u5, .int .i64 u6] = .agg #[.int .i64 (if r = 0 then max a0 s else a0), .int .i64 (if r = 1 then max a1 s else a1), .int .i64 (if r = 2 then max a2 s else a2), .int .i64 (if r = 3 then max a3 s else a3), .int .i64 (if r = 4 then max a4 s else a4), .int .i64 (if r = 5 then max a5 s else a5), .int .i64 (if r = 6 then max a6 s else a6)]) := Lib.hid (by rw [hu0, hu1, hu2, hu3, hu4, hu5, hu6])
  have HY : Hid (Value.agg #[.int .i64 y0, .int .i64 y1, .int .i64 y2, .int .i64 y3, .int .i64 y4, .int .i64 y5, .int .i64 y6] = .agg #[.int .i64 (if r = 0 ∧ 1 ≤ s then min a0 (s - 1) else a0), .int .i64 (if r = 1 ∧ 1 ≤ s then min a1 (s - 1) else a1), .int .i64 (if r = 2 ∧ 1 ≤ s then min a2 (s - 1) else a2), .int .i64 (if r = 3 ∧ 1 ≤ s then min a3 (s - 1) else a3), .int .i64 (if r = 4 ∧ 1 ≤ s then min a4 (s - 1) else a4), .int .i64 (if r = 5 ∧ 1 ≤ s then min a5 (s - 1) else a5), .int .i64 (if r = 6 ∧ 1 ≤ s then min a6 (s - 1) else a6)]) := Lib.hid (by rw [hy0, hy1, hy2, hy3, hy4, hy5, hy6])
  have HUE : Hid (u0 = (if r = 0 then max a0 s else a0) ∧ u1 = (if r = 1 then max a1 s else a1) ∧ u2 = (if r = 2 then max a2 s else a2) ∧ u3 = (if r = 3 then max a3 s else a3) ∧ u4 = (if r = 4 then max a4 s else a4) ∧ u5 = (if r = 5 then max a5 s else a5) ∧ u6 = (if r = 6 then max a6 s else a6)) := Lib.hid ⟨hu0, hu1, hu2, hu3, hu4, hu5, hu6⟩
  have HYE : Hid (y0 = (if r = 0 ∧ 1 ≤ s then min a0 (s - 1) else a0) ∧ y1 = (if r = 1 ∧ 1 ≤ s then min a1 (s - 1) else a1) ∧ y2 = (if r = 2 ∧ 1 ≤ s then min a2 (s - 1) else a2) ∧ y3 = (if r = 3 ∧ 1 ≤ s then min a3 (s - 1) else a3) ∧ y4 = (if r = 4 ∧ 1 ≤ s then min a4 (s - 1) else a4) ∧ y5 = (if r = 5 ∧ 1 ≤ s then min a5 (s - 1) else a5) ∧ y6 = (if r = 6 ∧ 1 ≤ s then min a6 (s - 1) else a6)) := Lib.hid ⟨hy0, hy1, hy2, hy3, hy4, hy5, hy6⟩
  clear hu0 hy0 hu1 hy1 hu2 hy2 hu3 hy3 hu4 hy4 hu5 hy5 hu6 hy6
  go_enter Try.func11, Try.ntmps11
  have hP0 : Hid (PBc w ((w.alloc (Obj.cells #[.int .i64 a0, .int .i64 a1, .int .i64 a2, .int .i64 a3, .int .i64 a4, .int .i64 a5, .int .i64 a6] 23)).alloc (Obj.cells #[.int .i64 r, .int .i64 s] 25)) a0 a1 a2 a3 a4 a5 a6 r s) := Lib.hid (by refine ⟨?_, ?_, ?_, ?_, ?_, ?_, ?_, ?_, ?_⟩ <;> (simp [go_sem]; done))
  go_upto_region 1 with fail
  go_cut [5, 6] from 9 to 15 (fun p5 p6 W => ∃ g h, p5 = .pointer (some ⟨g, 0, none⟩) ∧ p6 = .pointer (some ⟨h, 0, none⟩) ∧ Hid (PutsBoxes w W g h a0 a1 a2 a3 a4 a5 a6 u0 u1 u2 u3 u4 u5 u6 y0 y1 y2 y3 y4 y5 y6 r s))
  case first =>
    go_region_held3 (fun W => W.cell? ⟨w.heap.size, 0, none⟩ = some (.int .i64 a0) ∧ W.cell? ⟨w.heap.size, 1, none⟩ = some (.int .i64 a1) ∧ W.cell? ⟨w.heap.size, 2, none⟩ = some (.int .i64 a2) ∧ W.cell? ⟨w.heap.size, 3, none⟩ = some (.int .i64 a3) ∧ W.cell? ⟨w.heap.size, 4, none⟩ = some (.int .i64 a4) ∧ W.cell? ⟨w.heap.size, 5, none⟩ = some (.int .i64 a5) ∧ W.cell? ⟨w.heap.size, 6, none⟩ = some (.int .i64 a6) ∧ W.cell? ⟨w.heap.size + 1, 0, none⟩ = some (.int .i64 r) ∧ W.cell? ⟨w.heap.size + 1, 1, none⟩ = some (.int .i64 s)) (first | ((repeat (with_reducible first | exact hPY.out | exact hPX.out | exact hP0.out | refine pb_drew ?_ | refine pb_alloc _ ?_ | (refine pb_set _ _ _ ?_ ?h1 ?h2; (case h1 => omega); (case h2 => omega)))); done) | (refine ⟨?_, ?_, ?_, ?_, ?_, ?_, ?_, ?_, ?_⟩ <;> (simp [go_sem]; done))) (first | (go_at_call 38; (first | (with_reducible refine (calls_ext (With_any _ _ _ _ _ _ _ _ _ _ HV.out _)).mono ?_) | (with_reducible refine (calls_to_ext (With_any _ _ _ _ _ _ _ _ _ _ HV.out _)).mono ?_)); rintro e w1 ⟨rfl, X, rfl⟩; have hX := X.size; (try simp only [World.size_alloc, World.size_setCell, World.size_drew] at hX); (try have qX0 : w.heap.size < X.w.heap.size := (by omega)); (try have qX1 : w.heap.size + 1 < X.w.heap.size := (by omega)); (try have qX2 : w.heap.size + 1 + 1 < X.w.heap.size := (by omega)); (try have qX3 : w.heap.size + 1 + 1 + 1 < X.w.heap.size := (by omega)); (try have pX0 : Y.w.heap.size < X.w.heap.size := (by omega)); (try have pX1 : Y.w.heap.size + 1 < X.w.heap.size := (by omega)); have hPX : Hid (PBc w X.w a0 a1 a2 a3 a4 a5 a6 r s) := Lib.hid (by refine pb_ext _ ?_; ((repeat (with_reducible first | exact hPY.out | exact hPX.out | exact hP0.out | refine pb_drew ?_ | refine pb_alloc _ ?_ | (refine pb_set _ _ _ ?_ ?h1 ?h2; (case h1 => omega); (case h2 => omega)))); done))) | (go_at_call 40; (first | (with_reducible refine (calls_ext (Without_any _ _ _ _ _ _ _ _ _ hs2 _ HY.out _)).mono ?_) | (with_reducible refine (calls_to_ext (Without_any _ _ _ _ _ _ _ _ _ hs2 _ HY.out _)).mono ?_)); rintro e w1 ⟨rfl, Y, rfl⟩; have hY := Y.size; (try simp only [World.size_alloc, World.size_setCell, World.size_drew] at hY); (try have qY0 : w.heap.size < Y.w.heap.size := (by omega)); (try have qY1 : w.heap.size + 1 < Y.w.heap.size := (by omega)); (try have qY2 : w.heap.size + 1 + 1 < Y.w.heap.size := (by omega)); (try have qY3 : w.heap.size + 1 + 1 + 1 < Y.w.heap.size := (by omega)); (try have pY0 : X.w.heap.size < Y.w.heap.size := (by omega)); (try have pY1 : X.w.heap.size + 1 < Y.w.heap.size := (by omega)); have hPY : Hid (PBc w Y.w a0 a1 a2 a3 a4 a5 a6 r s) := Lib.hid (by refine pb_ext _ ?_; ((repeat (with_reducible first | exact hPY.out | exact hPX.out | exact hP0.out | refine pb_drew ?_ | refine pb_alloc _ ?_ | (refine pb_set _ _ _ ?_ ?h1 ?h2; (case h1 => omega); (case h2 => omega)))); done))))
    all_goals (go_wp2_with fail)
    all_goals go_meet
    all_goals refine ⟨_, _, rfl, rfl, Lib.hid ⟨?_, ?_, ?_, ?_, ?_, ?_, ?_, ?_⟩⟩
    all_goals first | (simp; done) | (simp; omega) | ((repeat (with_reducible first | exact hPY.out | exact hPX.out | exact hP0.out | refine pb_drew ?_ | refine pb_alloc _ ?_ | (refine pb_set _ _ _ ?_ ?h1 ?h2; (case h1 => omega); (case h2 => omega)))); done) | ((repeat' (first | (with_reducible exact Below.refl _ _) | (with_reducible assumption) | (with_reducible refine Below.setCell ?_ ?_ _) | (with_reducible refine Below.alloc ?_ ?_ _) | (with_reducible refine Below.drew ?_) | (with_reducible refine below_drewN ?_ _) | (with_reducible refine Ext.grown _ ?_ ?_) | (with_reducible exact Nat.le_refl _) | omega | (simp only [World.size_alloc, World.size_setCell, World.size_drew]; omega) | (simp; omega) | (simp; done))); done) | (refine ⟨?_, ?_, ?_, ?_, ?_, ?_, ?_⟩ <;> (simp [go_sem]; done)) | skip
    all_goals ((repeat (with_reducible first | refine c7_set7 ?_ | refine c7_alloc _ ?_ | (refine c7_far _ _ ?h1 ?_; (case h1 => omega)) | (refine s7_far _ _ ?h1 ?_; (case h1 => omega)))); refine ⟨?_, ?_, ?_, ?_, ?_, ?_, ?_⟩ <;> (first | (simp [go_sem]; done) | (rw [Y.cell _ _ (by simp; omega), ((Below.refl X.w.heap.size X.w).alloc (Nat.le_refl _) _).cell (by simp only []; omega)]; simp [go_sem]; done)))
  case rest =>
    obtain ⟨g, h, rfl, rfl, hB⟩ := hcut
    have HBW : Hid (Below w.heap.size w wc) := Lib.hid hB.out.below
    have ga := hB.out.ga
    have gi := hB.out.gi
    have gg := hB.out.gg
    have gh := hB.out.gh
    obtain ⟨b0, b1, b2, b3, b4, b5, b6, b7, b8⟩ := hB.out.cb
    obtain ⟨c0, c1, c2, c3, c4, c5, c6⟩ := hB.out.cg
    obtain ⟨e0, e1, e2, e3, e4, e5, e6⟩ := hB.out.ch
    obtain ⟨hu0, hu1, hu2, hu3, hu4, hu5, hu6⟩ := HUE.out
    obtain ⟨hy0, hy1, hy2, hy3, hy4, hy5, hy6⟩ := HYE.out
    clear hB HUE HYE HV HY
    rcases rep_cases r with rfl | rfl | rfl | rfl | rfl | rfl | rfl | hr
    · by_cases hs1 : 1 ≤ s
      · have xu0 : u0 = max a0 s := by rw [hu0]; exact if_pos rfl
        have xy0 : y0 = min a0 (s - 1) := by rw [hy0]; exact if_pos ⟨rfl, by omega⟩
        have xu1 : a1 = u1 := by rw [hu1]; exact (if_neg (by omega)).symm
        have xy1 : a1 = y1 := by rw [hy1]; exact (if_neg (by omega)).symm
        have xu2 : a2 = u2 := by rw [hu2]; exact (if_neg (by omega)).symm
        have xy2 : a2 = y2 := by rw [hy2]; exact (if_neg (by omega)).symm
        have xu3 : a3 = u3 := by rw [hu3]; exact (if_neg (by omega)).symm
        have xy3 : a3 = y3 := by rw [hy3]; exact (if_neg (by omega)).symm
        have xu4 : a4 = u4 := by rw [hu4]; exact (if_neg (by omega)).symm
        have xy4 : a4 = y4 := by rw [hy4]; exact (if_neg (by omega)).symm
        have xu5 : a5 = u5 := by rw [hu5]; exact (if_neg (by omega)).symm
        have xy5 : a5 = y5 := by rw [hy5]; exact (if_neg (by omega)).symm
        have xu6 : a6 = u6 := by rw [hu6]; exact (if_neg (by omega)).symm
        have xy6 : a6 = y6 := by rw [hy6]; exact (if_neg (by omega)).symm
        clear hu0 hy0 hu1 hy1 hu2 hy2 hu3 hy3 hu4 hy4 hu5 hy5 hu6 hy6
        have lu : a0 ≤ u0 := by omega
        have ly : y0 ≤ a0 := by omega
        have HH : Hid (true = decide (0 ≤ (0 : Int) ∧ (0 : Int) < 7 ∧ 1 ≤ s ∧ s ≤ at7 u0 u1 u2 u3 u4 u5 u6 0)) := Lib.hid (tt (by refine ⟨by omega, by omega, by omega, ?_⟩; simp [at7]; omega))
        have HN : Hid (false = decide (0 ≤ (0 : Int) ∧ (0 : Int) < 7 ∧ 1 ≤ s ∧ s ≤ at7 y0 y1 y2 y3 y4 y5 y6 0)) := Lib.hid (ff (by rintro ⟨_, _, h1, h2⟩; simp [at7] at h2; omega))
        have ds : decide (1 ≤ s) = true := decide_eq_true (by omega)
        subst xu1
        subst xy1
        subst xu2
        subst xy2
        subst xu3
        subst xy3
        subst xu4
        subst xy4
        subst xu5
        subst xy5
        subst xu6
        subst xy6
        clear xu0 xy0
        go_wp2_with (first | (go_at_call 18; (first | (with_reducible refine (calls_ext (Has_is u0 a1 a2 a3 a4 a5 a6 _ _ true HH.out _)).mono ?_) | (with_reducible refine (calls_to_ext (Has_is u0 a1 a2 a3 a4 a5 a6 _ _ true HH.out _)).mono ?_)); rintro e w1 ⟨rfl, X, rfl⟩; have hX := X.size; (try simp only [World.size_alloc] at hX)) | (go_at_call 18; (first | (with_reducible refine (calls_ext (Has_is y0 a1 a2 a3 a4 a5 a6 _ _ false HN.out _)).mono ?_) | (with_reducible refine (calls_to_ext (Has_is y0 a1 a2 a3 a4 a5 a6 _ _ false HN.out _)).mono ?_)); rintro e w1 ⟨rfl, X, rfl⟩; have hX := X.size; (try simp only [World.size_alloc] at hX)) | (go_at_call 17; (first | (with_reducible refine (calls_ext (Over_is _ _ _ _ _ _ _ _ _ _ _ _ _ _ true (tt (by omega)) _)).mono ?_) | (with_reducible refine (calls_to_ext (Over_is _ _ _ _ _ _ _ _ _ _ _ _ _ _ true (tt (by omega)) _)).mono ?_)); rintro e w1 ⟨rfl, X, rfl⟩; have hX := X.size; (try simp only [World.size_alloc] at hX)) | (go_at_call 19; (first | (with_reducible refine (calls_ext (awake03 _)).mono ?_) | (with_reducible refine (calls_to_ext (awake03 _)).mono ?_)); rintro e w1 ⟨rfl, X, rfl⟩; have hX := X.size; (try simp only [World.size_alloc] at hX)))
        refine wp_loop_rounds 8 ?_
        repeat any_goals (rw [rounds_succ]; go_wp2_with (first | (go_at_call 18; (first | (with_reducible refine (calls_ext (Has_is u0 a1 a2 a3 a4 a5 a6 _ _ true HH.out _)).mono ?_) | (with_reducible refine (calls_to_ext (Has_is u0 a1 a2 a3 a4 a5 a6 _ _ true HH.out _)).mono ?_)); rintro e w1 ⟨rfl, X, rfl⟩; have hX := X.size; (try simp only [World.size_alloc] at hX)) | (go_at_call 18; (first | (with_reducible refine (calls_ext (Has_is y0 a1 a2 a3 a4 a5 a6 _ _ false HN.out _)).mono ?_) | (with_reducible refine (calls_to_ext (Has_is y0 a1 a2 a3 a4 a5 a6 _ _ false HN.out _)).mono ?_)); rintro e w1 ⟨rfl, X, rfl⟩; have hX := X.size; (try simp only [World.size_alloc] at hX)) | (go_at_call 17; (first | (with_reducible refine (calls_ext (Over_is _ _ _ _ _ _ _ _ _ _ _ _ _ _ true (tt (by omega)) _)).mono ?_) | (with_reducible refine (calls_to_ext (Over_is _ _ _ _ _ _ _ _ _ _ _ _ _ _ true (tt (by omega)) _)).mono ?_)); rintro e w1 ⟨rfl, X, rfl⟩; have hX := X.size; (try simp only [World.size_alloc] at hX)) | (go_at_call 19; (first | (with_reducible refine (calls_ext (awake03 _)).mono ?_) | (with_reducible refine (calls_to_ext (awake03 _)).mono ?_)); rintro e w1 ⟨rfl, X, rfl⟩; have hX := X.size; (try simp only [World.size_alloc] at hX))); (try (go_quiet (fail); go_wp2_with (first | (go_at_call 18; (first | (with_reducible refine (calls_ext (Has_is u0 a1 a2 a3 a4 a5 a6 _ _ true HH.out _)).mono ?_) | (with_reducible refine (calls_to_ext (Has_is u0 a1 a2 a3 a4 a5 a6 _ _ true HH.out _)).mono ?_)); rintro e w1 ⟨rfl, X, rfl⟩; have hX := X.size; (try simp only [World.size_alloc] at hX)) | (go_at_call 18; (first | (with_reducible refine (calls_ext (Has_is y0 a1 a2 a3 a4 a5 a6 _ _ false HN.out _)).mono ?_) | (with_reducible refine (calls_to_ext (Has_is y0 a1 a2 a3 a4 a5 a6 _ _ false HN.out _)).mono ?_)); rintro e w1 ⟨rfl, X, rfl⟩; have hX := X.size; (try simp only [World.size_alloc] at hX)) | (go_at_call 17; (first | (with_reducible refine (calls_ext (Over_is _ _ _ _ _ _ _ _ _ _ _ _ _ _ true (tt (by omega)) _)).mono ?_) | (with_reducible refine (calls_to_ext (Over_is _ _ _ _ _ _ _ _ _ _ _ _ _ _ true (tt (by omega)) _)).mono ?_)); rintro e w1 ⟨rfl, X, rfl⟩; have hX := X.size; (try simp only [World.size_alloc] at hX)) | (go_at_call 19; (first | (with_reducible refine (calls_ext (awake03 _)).mono ?_) | (with_reducible refine (calls_to_ext (awake03 _)).mono ?_)); rintro e w1 ⟨rfl, X, rfl⟩; have hX := X.size; (try simp only [World.size_alloc] at hX))))))
        have hbw := HBW.out
        go_ret
        exact ⟨rfl, by (repeat' (first | (with_reducible exact Below.refl _ _) | (with_reducible assumption) | (with_reducible refine Below.setCell ?_ ?_ _) | (with_reducible refine Below.alloc ?_ ?_ _) | (with_reducible refine Below.drew ?_) | (with_reducible refine below_drewN ?_ _) | (with_reducible refine Ext.grown _ ?_ ?_) | (with_reducible exact Nat.le_refl _) | omega | (simp only [World.size_alloc, World.size_setCell, World.size_drew]; omega) | (simp; omega) | (simp; done)))⟩
      · have xu0 : u0 = max a0 s := by rw [hu0]; exact if_pos rfl
        have xy0 : y0 = a0 := by rw [hy0]; exact if_neg (by omega)
        have xu1 : a1 = u1 := by rw [hu1]; exact (if_neg (by omega)).symm
        have xy1 : a1 = y1 := by rw [hy1]; exact (if_neg (by omega)).symm
        have xu2 : a2 = u2 := by rw [hu2]; exact (if_neg (by omega)).symm
        have xy2 : a2 = y2 := by rw [hy2]; exact (if_neg (by omega)).symm
        have xu3 : a3 = u3 := by rw [hu3]; exact (if_neg (by omega)).symm
        have xy3 : a3 = y3 := by rw [hy3]; exact (if_neg (by omega)).symm
        have xu4 : a4 = u4 := by rw [hu4]; exact (if_neg (by omega)).symm
        have xy4 : a4 = y4 := by rw [hy4]; exact (if_neg (by omega)).symm
        have xu5 : a5 = u5 := by rw [hu5]; exact (if_neg (by omega)).symm
        have xy5 : a5 = y5 := by rw [hy5]; exact (if_neg (by omega)).symm
        have xu6 : a6 = u6 := by rw [hu6]; exact (if_neg (by omega)).symm
        have xy6 : a6 = y6 := by rw [hy6]; exact (if_neg (by omega)).symm
        clear hu0 hy0 hu1 hy1 hu2 hy2 hu3 hy3 hu4 hy4 hu5 hy5 hu6 hy6
        have lu : a0 ≤ u0 := by omega
        have ly : y0 ≤ a0 := by omega
        have HH : Hid (false = decide (0 ≤ (0 : Int) ∧ (0 : Int) < 7 ∧ 1 ≤ s ∧ s ≤ at7 u0 u1 u2 u3 u4 u5 u6 0)) := Lib.hid (ff (by omega))
        have HN : Hid (false = decide (0 ≤ (0 : Int) ∧ (0 : Int) < 7 ∧ 1 ≤ s ∧ s ≤ at7 y0 y1 y2 y3 y4 y5 y6 0)) := Lib.hid (ff (by rintro ⟨_, _, h1, h2⟩; simp [at7] at h2; omega))
        have ds : decide (1 ≤ s) = false := decide_eq_false (by omega)
        subst xu1
        subst xy1
        subst xu2
        subst xy2
        subst xu3
        subst xy3
        subst xu4
        subst xy4
        subst xu5
        subst xy5
        subst xu6
        subst xy6
        clear xu0 xy0
        go_wp2_with (first | (go_at_call 18; (first | (with_reducible refine (calls_ext (Has_is u0 a1 a2 a3 a4 a5 a6 _ _ false HH.out _)).mono ?_) | (with_reducible refine (calls_to_ext (Has_is u0 a1 a2 a3 a4 a5 a6 _ _ false HH.out _)).mono ?_)); rintro e w1 ⟨rfl, X, rfl⟩; have hX := X.size; (try simp only [World.size_alloc] at hX)) | (go_at_call 18; (first | (with_reducible refine (calls_ext (Has_is y0 a1 a2 a3 a4 a5 a6 _ _ false HN.out _)).mono ?_) | (with_reducible refine (calls_to_ext (Has_is y0 a1 a2 a3 a4 a5 a6 _ _ false HN.out _)).mono ?_)); rintro e w1 ⟨rfl, X, rfl⟩; have hX := X.size; (try simp only [World.size_alloc] at hX)) | (go_at_call 17; (first | (with_reducible refine (calls_ext (Over_is _ _ _ _ _ _ _ _ _ _ _ _ _ _ true (tt (by omega)) _)).mono ?_) | (with_reducible refine (calls_to_ext (Over_is _ _ _ _ _ _ _ _ _ _ _ _ _ _ true (tt (by omega)) _)).mono ?_)); rintro e w1 ⟨rfl, X, rfl⟩; have hX := X.size; (try simp only [World.size_alloc] at hX)) | (go_at_call 19; (first | (with_reducible refine (calls_ext (awake03 _)).mono ?_) | (with_reducible refine (calls_to_ext (awake03 _)).mono ?_)); rintro e w1 ⟨rfl, X, rfl⟩; have hX := X.size; (try simp only [World.size_alloc] at hX)))
        refine wp_loop_rounds 8 ?_
        repeat any_goals (rw [rounds_succ]; go_wp2_with (first | (go_at_call 18; (first | (with_reducible refine (calls_ext (Has_is u0 a1 a2 a3 a4 a5 a6 _ _ false HH.out _)).mono ?_) | (with_reducible refine (calls_to_ext (Has_is u0 a1 a2 a3 a4 a5 a6 _ _ false HH.out _)).mono ?_)); rintro e w1 ⟨rfl, X, rfl⟩; have hX := X.size; (try simp only [World.size_alloc] at hX)) | (go_at_call 18; (first | (with_reducible refine (calls_ext (Has_is y0 a1 a2 a3 a4 a5 a6 _ _ false HN.out _)).mono ?_) | (with_reducible refine (calls_to_ext (Has_is y0 a1 a2 a3 a4 a5 a6 _ _ false HN.out _)).mono ?_)); rintro e w1 ⟨rfl, X, rfl⟩; have hX := X.size; (try simp only [World.size_alloc] at hX)) | (go_at_call 17; (first | (with_reducible refine (calls_ext (Over_is _ _ _ _ _ _ _ _ _ _ _ _ _ _ true (tt (by omega)) _)).mono ?_) | (with_reducible refine (calls_to_ext (Over_is _ _ _ _ _ _ _ _ _ _ _ _ _ _ true (tt (by omega)) _)).mono ?_)); rintro e w1 ⟨rfl, X, rfl⟩; have hX := X.size; (try simp only [World.size_alloc] at hX)) | (go_at_call 19; (first | (with_reducible refine (calls_ext (awake03 _)).mono ?_) | (with_reducible refine (calls_to_ext (awake03 _)).mono ?_)); rintro e w1 ⟨rfl, X, rfl⟩; have hX := X.size; (try simp only [World.size_alloc] at hX))); (try (go_quiet (fail); go_wp2_with (first | (go_at_call 18; (first | (with_reducible refine (calls_ext (Has_is u0 a1 a2 a3 a4 a5 a6 _ _ false HH.out _)).mono ?_) | (with_reducible refine (calls_to_ext (Has_is u0 a1 a2 a3 a4 a5 a6 _ _ false HH.out _)).mono ?_)); rintro e w1 ⟨rfl, X, rfl⟩; have hX := X.size; (try simp only [World.size_alloc] at hX)) | (go_at_call 18; (first | (with_reducible refine (calls_ext (Has_is y0 a1 a2 a3 a4 a5 a6 _ _ false HN.out _)).mono ?_) | (with_reducible refine (calls_to_ext (Has_is y0 a1 a2 a3 a4 a5 a6 _ _ false HN.out _)).mono ?_)); rintro e w1 ⟨rfl, X, rfl⟩; have hX := X.size; (try simp only [World.size_alloc] at hX)) | (go_at_call 17; (first | (with_reducible refine (calls_ext (Over_is _ _ _ _ _ _ _ _ _ _ _ _ _ _ true (tt (by omega)) _)).mono ?_) | (with_reducible refine (calls_to_ext (Over_is _ _ _ _ _ _ _ _ _ _ _ _ _ _ true (tt (by omega)) _)).mono ?_)); rintro e w1 ⟨rfl, X, rfl⟩; have hX := X.size; (try simp only [World.size_alloc] at hX)) | (go_at_call 19; (first | (with_reducible refine (calls_ext (awake03 _)).mono ?_) | (with_reducible refine (calls_to_ext (awake03 _)).mono ?_)); rintro e w1 ⟨rfl, X, rfl⟩; have hX := X.size; (try simp only [World.size_alloc] at hX))))))
        have hbw := HBW.out
        go_ret
        exact ⟨rfl, by (repeat' (first | (with_reducible exact Below.refl _ _) | (with_reducible assumption) | (with_reducible refine Below.setCell ?_ ?_ _) | (with_reducible refine Below.alloc ?_ ?_ _) | (with_reducible refine Below.drew ?_) | (with_reducible refine below_drewN ?_ _) | (with_reducible refine Ext.grown _ ?_ ?_) | (with_reducible exact Nat.le_refl _) | omega | (simp only [World.size_alloc, World.size_setCell, World.size_drew]; omega) | (simp; omega) | (simp; done)))⟩
    · by_cases hs1 : 1 ≤ s
      · have xu0 : a0 = u0 := by rw [hu0]; exact (if_neg (by omega)).symm
        have xy0 : a0 = y0 := by rw [hy0]; exact (if_neg (by omega)).symm
        have xu1 : u1 = max a1 s := by rw [hu1]; exact if_pos rfl
        have xy1 : y1 = min a1 (s - 1) := by rw [hy1]; exact if_pos ⟨rfl, by omega⟩
        have xu2 : a2 = u2 := by rw [hu2]; exact (if_neg (by omega)).symm
        have xy2 : a2 = y2 := by rw [hy2]; exact (if_neg (by omega)).symm
        have xu3 : a3 = u3 := by rw [hu3]; exact (if_neg (by omega)).symm
        have xy3 : a3 = y3 := by rw [hy3]; exact (if_neg (by omega)).symm
        have xu4 : a4 = u4 := by rw [hu4]; exact (if_neg (by omega)).symm
        have xy4 : a4 = y4 := by rw [hy4]; exact (if_neg (by omega)).symm
        have xu5 : a5 = u5 := by rw [hu5]; exact (if_neg (by omega)).symm
        have xy5 : a5 = y5 := by rw [hy5]; exact (if_neg (by omega)).symm
        have xu6 : a6 = u6 := by rw [hu6]; exact (if_neg (by omega)).symm
        have xy6 : a6 = y6 := by rw [hy6]; exact (if_neg (by omega)).symm
        clear hu0 hy0 hu1 hy1 hu2 hy2 hu3 hy3 hu4 hy4 hu5 hy5 hu6 hy6
        have lu : a1 ≤ u1 := by omega
        have ly : y1 ≤ a1 := by omega
        have HH : Hid (true = decide (0 ≤ (1 : Int) ∧ (1 : Int) < 7 ∧ 1 ≤ s ∧ s ≤ at7 u0 u1 u2 u3 u4 u5 u6 1)) := Lib.hid (tt (by refine ⟨by omega, by omega, by omega, ?_⟩; simp [at7]; omega))
        have HN : Hid (false = decide (0 ≤ (1 : Int) ∧ (1 : Int) < 7 ∧ 1 ≤ s ∧ s ≤ at7 y0 y1 y2 y3 y4 y5 y6 1)) := Lib.hid (ff (by rintro ⟨_, _, h1, h2⟩; simp [at7] at h2; omega))
        have ds : decide (1 ≤ s) = true := decide_eq_true (by omega)
        subst xu0
        subst xy0
        subst xu2
        subst xy2
        subst xu3
        subst xy3
        subst xu4
        subst xy4
        subst xu5
        subst xy5
        subst xu6
        subst xy6
        clear xu1 xy1
        go_wp2_with (first | (go_at_call 18; (first | (with_reducible refine (calls_ext (Has_is a0 u1 a2 a3 a4 a5 a6 _ _ true HH.out _)).mono ?_) | (with_reducible refine (calls_to_ext (Has_is a0 u1 a2 a3 a4 a5 a6 _ _ true HH.out _)).mono ?_)); rintro e w1 ⟨rfl, X, rfl⟩; have hX := X.size; (try simp only [World.size_alloc] at hX)) | (go_at_call 18; (first | (with_reducible refine (calls_ext (Has_is a0 y1 a2 a3 a4 a5 a6 _ _ false HN.out _)).mono ?_) | (with_reducible refine (calls_to_ext (Has_is a0 y1 a2 a3 a4 a5 a6 _ _ false HN.out _)).mono ?_)); rintro e w1 ⟨rfl, X, rfl⟩; have hX := X.size; (try simp only [World.size_alloc] at hX)) | (go_at_call 17; (first | (with_reducible refine (calls_ext (Over_is _ _ _ _ _ _ _ _ _ _ _ _ _ _ true (tt (by omega)) _)).mono ?_) | (with_reducible refine (calls_to_ext (Over_is _ _ _ _ _ _ _ _ _ _ _ _ _ _ true (tt (by omega)) _)).mono ?_)); rintro e w1 ⟨rfl, X, rfl⟩; have hX := X.size; (try simp only [World.size_alloc] at hX)) | (go_at_call 19; (first | (with_reducible refine (calls_ext (awake03 _)).mono ?_) | (with_reducible refine (calls_to_ext (awake03 _)).mono ?_)); rintro e w1 ⟨rfl, X, rfl⟩; have hX := X.size; (try simp only [World.size_alloc] at hX)))
        refine wp_loop_rounds 8 ?_
        repeat any_goals (rw [rounds_succ]; go_wp2_with (first | (go_at_call 18; (first | (with_reducible refine (calls_ext (Has_is a0 u1 a2 a3 a4 a5 a6 _ _ true HH.out _)).mono ?_) | (with_reducible refine (calls_to_ext (Has_is a0 u1 a2 a3 a4 a5 a6 _ _ true HH.out _)).mono ?_)); rintro e w1 ⟨rfl, X, rfl⟩; have hX := X.size; (try simp only [World.size_alloc] at hX)) | (go_at_call 18; (first | (with_reducible refine (calls_ext (Has_is a0 y1 a2 a3 a4 a5 a6 _ _ false HN.out _)).mono ?_) | (with_reducible refine (calls_to_ext (Has_is a0 y1 a2 a3 a4 a5 a6 _ _ false HN.out _)).mono ?_)); rintro e w1 ⟨rfl, X, rfl⟩; have hX := X.size; (try simp only [World.size_alloc] at hX)) | (go_at_call 17; (first | (with_reducible refine (calls_ext (Over_is _ _ _ _ _ _ _ _ _ _ _ _ _ _ true (tt (by omega)) _)).mono ?_) | (with_reducible refine (calls_to_ext (Over_is _ _ _ _ _ _ _ _ _ _ _ _ _ _ true (tt (by omega)) _)).mono ?_)); rintro e w1 ⟨rfl, X, rfl⟩; have hX := X.size; (try simp only [World.size_alloc] at hX)) | (go_at_call 19; (first | (with_reducible refine (calls_ext (awake03 _)).mono ?_) | (with_reducible refine (calls_to_ext (awake03 _)).mono ?_)); rintro e w1 ⟨rfl, X, rfl⟩; have hX := X.size; (try simp only [World.size_alloc] at hX))); (try (go_quiet (fail); go_wp2_with (first | (go_at_call 18; (first | (with_reducible refine (calls_ext (Has_is a0 u1 a2 a3 a4 a5 a6 _ _ true HH.out _)).mono ?_) | (with_reducible refine (calls_to_ext (Has_is a0 u1 a2 a3 a4 a5 a6 _ _ true HH.out _)).mono ?_)); rintro e w1 ⟨rfl, X, rfl⟩; have hX := X.size; (try simp only [World.size_alloc] at hX)) | (go_at_call 18; (first | (with_reducible refine (calls_ext (Has_is a0 y1 a2 a3 a4 a5 a6 _ _ false HN.out _)).mono ?_) | (with_reducible refine (calls_to_ext (Has_is a0 y1 a2 a3 a4 a5 a6 _ _ false HN.out _)).mono ?_)); rintro e w1 ⟨rfl, X, rfl⟩; have hX := X.size; (try simp only [World.size_alloc] at hX)) | (go_at_call 17; (first | (with_reducible refine (calls_ext (Over_is _ _ _ _ _ _ _ _ _ _ _ _ _ _ true (tt (by omega)) _)).mono ?_) | (with_reducible refine (calls_to_ext (Over_is _ _ _ _ _ _ _ _ _ _ _ _ _ _ true (tt (by omega)) _)).mono ?_)); rintro e w1 ⟨rfl, X, rfl⟩; have hX := X.size; (try simp only [World.size_alloc] at hX)) | (go_at_call 19; (first | (with_reducible refine (calls_ext (awake03 _)).mono ?_) | (with_reducible refine (calls_to_ext (awake03 _)).mono ?_)); rintro e w1 ⟨rfl, X, rfl⟩; have hX := X.size; (try simp only [World.size_alloc] at hX))))))
        have hbw := HBW.out
        go_ret
        exact ⟨rfl, by (repeat' (first | (with_reducible exact Below.refl _ _) | (with_reducible assumption) | (with_reducible refine Below.setCell ?_ ?_ _) | (with_reducible refine Below.alloc ?_ ?_ _) | (with_reducible refine Below.drew ?_) | (with_reducible refine below_drewN ?_ _) | (with_reducible refine Ext.grown _ ?_ ?_) | (with_reducible exact Nat.le_refl _) | omega | (simp only [World.size_alloc, World.size_setCell, World.size_drew]; omega) | (simp; omega) | (simp; done)))⟩
      · have xu0 : a0 = u0 := by rw [hu0]; exact (if_neg (by omega)).symm
        have xy0 : a0 = y0 := by rw [hy0]; exact (if_neg (by omega)).symm
        have xu1 : u1 = max a1 s := by rw [hu1]; exact if_pos rfl
        have xy1 : y1 = a1 := by rw [hy1]; exact if_neg (by omega)
        have xu2 : a2 = u2 := by rw [hu2]; exact (if_neg (by omega)).symm
        have xy2 : a2 = y2 := by rw [hy2]; exact (if_neg (by omega)).symm
        have xu3 : a3 = u3 := by rw [hu3]; exact (if_neg (by omega)).symm
        have xy3 : a3 = y3 := by rw [hy3]; exact (if_neg (by omega)).symm
        have xu4 : a4 = u4 := by rw [hu4]; exact (if_neg (by omega)).symm
        have xy4 : a4 = y4 := by rw [hy4]; exact (if_neg (by omega)).symm
        have xu5 : a5 = u5 := by rw [hu5]; exact (if_neg (by omega)).symm
        have xy5 : a5 = y5 := by rw [hy5]; exact (if_neg (by omega)).symm
        have xu6 : a6 = u6 := by rw [hu6]; exact (if_neg (by omega)).symm
        have xy6 : a6 = y6 := by rw [hy6]; exact (if_neg (by omega)).symm
        clear hu0 hy0 hu1 hy1 hu2 hy2 hu3 hy3 hu4 hy4 hu5 hy5 hu6 hy6
        have lu : a1 ≤ u1 := by omega
        have ly : y1 ≤ a1 := by omega
        have HH : Hid (false = decide (0 ≤ (1 : Int) ∧ (1 : Int) < 7 ∧ 1 ≤ s ∧ s ≤ at7 u0 u1 u2 u3 u4 u5 u6 1)) := Lib.hid (ff (by omega))
        have HN : Hid (false = decide (0 ≤ (1 : Int) ∧ (1 : Int) < 7 ∧ 1 ≤ s ∧ s ≤ at7 y0 y1 y2 y3 y4 y5 y6 1)) := Lib.hid (ff (by rintro ⟨_, _, h1, h2⟩; simp [at7] at h2; omega))
        have ds : decide (1 ≤ s) = false := decide_eq_false (by omega)
        subst xu0
        subst xy0
        subst xu2
        subst xy2
        subst xu3
        subst xy3
        subst xu4
        subst xy4
        subst xu5
        subst xy5
        subst xu6
        subst xy6
        clear xu1 xy1
        go_wp2_with (first | (go_at_call 18; (first | (with_reducible refine (calls_ext (Has_is a0 u1 a2 a3 a4 a5 a6 _ _ false HH.out _)).mono ?_) | (with_reducible refine (calls_to_ext (Has_is a0 u1 a2 a3 a4 a5 a6 _ _ false HH.out _)).mono ?_)); rintro e w1 ⟨rfl, X, rfl⟩; have hX := X.size; (try simp only [World.size_alloc] at hX)) | (go_at_call 18; (first | (with_reducible refine (calls_ext (Has_is a0 y1 a2 a3 a4 a5 a6 _ _ false HN.out _)).mono ?_) | (with_reducible refine (calls_to_ext (Has_is a0 y1 a2 a3 a4 a5 a6 _ _ false HN.out _)).mono ?_)); rintro e w1 ⟨rfl, X, rfl⟩; have hX := X.size; (try simp only [World.size_alloc] at hX)) | (go_at_call 17; (first | (with_reducible refine (calls_ext (Over_is _ _ _ _ _ _ _ _ _ _ _ _ _ _ true (tt (by omega)) _)).mono ?_) | (with_reducible refine (calls_to_ext (Over_is _ _ _ _ _ _ _ _ _ _ _ _ _ _ true (tt (by omega)) _)).mono ?_)); rintro e w1 ⟨rfl, X, rfl⟩; have hX := X.size; (try simp only [World.size_alloc] at hX)) | (go_at_call 19; (first | (with_reducible refine (calls_ext (awake03 _)).mono ?_) | (with_reducible refine (calls_to_ext (awake03 _)).mono ?_)); rintro e w1 ⟨rfl, X, rfl⟩; have hX := X.size; (try simp only [World.size_alloc] at hX)))
        refine wp_loop_rounds 8 ?_
        repeat any_goals (rw [rounds_succ]; go_wp2_with (first | (go_at_call 18; (first | (with_reducible refine (calls_ext (Has_is a0 u1 a2 a3 a4 a5 a6 _ _ false HH.out _)).mono ?_) | (with_reducible refine (calls_to_ext (Has_is a0 u1 a2 a3 a4 a5 a6 _ _ false HH.out _)).mono ?_)); rintro e w1 ⟨rfl, X, rfl⟩; have hX := X.size; (try simp only [World.size_alloc] at hX)) | (go_at_call 18; (first | (with_reducible refine (calls_ext (Has_is a0 y1 a2 a3 a4 a5 a6 _ _ false HN.out _)).mono ?_) | (with_reducible refine (calls_to_ext (Has_is a0 y1 a2 a3 a4 a5 a6 _ _ false HN.out _)).mono ?_)); rintro e w1 ⟨rfl, X, rfl⟩; have hX := X.size; (try simp only [World.size_alloc] at hX)) | (go_at_call 17; (first | (with_reducible refine (calls_ext (Over_is _ _ _ _ _ _ _ _ _ _ _ _ _ _ true (tt (by omega)) _)).mono ?_) | (with_reducible refine (calls_to_ext (Over_is _ _ _ _ _ _ _ _ _ _ _ _ _ _ true (tt (by omega)) _)).mono ?_)); rintro e w1 ⟨rfl, X, rfl⟩; have hX := X.size; (try simp only [World.size_alloc] at hX)) | (go_at_call 19; (first | (with_reducible refine (calls_ext (awake03 _)).mono ?_) | (with_reducible refine (calls_to_ext (awake03 _)).mono ?_)); rintro e w1 ⟨rfl, X, rfl⟩; have hX := X.size; (try simp only [World.size_alloc] at hX))); (try (go_quiet (fail); go_wp2_with (first | (go_at_call 18; (first | (with_reducible refine (calls_ext (Has_is a0 u1 a2 a3 a4 a5 a6 _ _ false HH.out _)).mono ?_) | (with_reducible refine (calls_to_ext (Has_is a0 u1 a2 a3 a4 a5 a6 _ _ false HH.out _)).mono ?_)); rintro e w1 ⟨rfl, X, rfl⟩; have hX := X.size; (try simp only [World.size_alloc] at hX)) | (go_at_call 18; (first | (with_reducible refine (calls_ext (Has_is a0 y1 a2 a3 a4 a5 a6 _ _ false HN.out _)).mono ?_) | (with_reducible refine (calls_to_ext (Has_is a0 y1 a2 a3 a4 a5 a6 _ _ false HN.out _)).mono ?_)); rintro e w1 ⟨rfl, X, rfl⟩; have hX := X.size; (try simp only [World.size_alloc] at hX)) | (go_at_call 17; (first | (with_reducible refine (calls_ext (Over_is _ _ _ _ _ _ _ _ _ _ _ _ _ _ true (tt (by omega)) _)).mono ?_) | (with_reducible refine (calls_to_ext (Over_is _ _ _ _ _ _ _ _ _ _ _ _ _ _ true (tt (by omega)) _)).mono ?_)); rintro e w1 ⟨rfl, X, rfl⟩; have hX := X.size; (try simp only [World.size_alloc] at hX)) | (go_at_call 19; (first | (with_reducible refine (calls_ext (awake03 _)).mono ?_) | (with_reducible refine (calls_to_ext (awake03 _)).mono ?_)); rintro e w1 ⟨rfl, X, rfl⟩; have hX := X.size; (try simp only [World.size_alloc] at hX))))))
        have hbw := HBW.out
        go_ret
        exact ⟨rfl, by (repeat' (first | (with_reducible exact Below.refl _ _) | (with_reducible assumption) | (with_reducible refine Below.setCell ?_ ?_ _) | (with_reducible refine Below.alloc ?_ ?_ _) | (with_reducible refine Below.drew ?_) | (with_reducible refine below_drewN ?_ _) | (with_reducible refine Ext.grown _ ?_ ?_) | (with_reducible exact Nat.le_refl _) | omega | (simp only [World.size_alloc, World.size_setCell, World.size_drew]; omega) | (simp; omega) | (simp; done)))⟩
    · by_cases hs1 : 1 ≤ s
      · have xu0 : a0 = u0 := by rw [hu0]; exact (if_neg (by omega)).symm
        have xy0 : a0 = y0 := by rw [hy0]; exact (if_neg (by omega)).symm
        have xu1 : a1 = u1 := by rw [hu1]; exact (if_neg (by omega)).symm
        have xy1 : a1 = y1 := by rw [hy1]; exact (if_neg (by omega)).symm
        have xu2 : u2 = max a2 s := by rw [hu2]; exact if_pos rfl
        have xy2 : y2 = min a2 (s - 1) := by rw [hy2]; exact if_pos ⟨rfl, by omega⟩
        have xu3 : a3 = u3 := by rw [hu3]; exact (if_neg (by omega)).symm
        have xy3 : a3 = y3 := by rw [hy3]; exact (if_neg (by omega)).symm
        have xu4 : a4 = u4 := by rw [hu4]; exact (if_neg (by omega)).symm
        have xy4 : a4 = y4 := by rw [hy4]; exact (if_neg (by omega)).symm
        have xu5 : a5 = u5 := by rw [hu5]; exact (if_neg (by omega)).symm
        have xy5 : a5 = y5 := by rw [hy5]; exact (if_neg (by omega)).symm
        have xu6 : a6 = u6 := by rw [hu6]; exact (if_neg (by omega)).symm
        have xy6 : a6 = y6 := by rw [hy6]; exact (if_neg (by omega)).symm
        clear hu0 hy0 hu1 hy1 hu2 hy2 hu3 hy3 hu4 hy4 hu5 hy5 hu6 hy6
        have lu : a2 ≤ u2 := by omega
        have ly : y2 ≤ a2 := by omega
        have HH : Hid (true = decide (0 ≤ (2 : Int) ∧ (2 : Int) < 7 ∧ 1 ≤ s ∧ s ≤ at7 u0 u1 u2 u3 u4 u5 u6 2)) := Lib.hid (tt (by refine ⟨by omega, by omega, by omega, ?_⟩; simp [at7]; omega))
        have HN : Hid (false = decide (0 ≤ (2 : Int) ∧ (2 : Int) < 7 ∧ 1 ≤ s ∧ s ≤ at7 y0 y1 y2 y3 y4 y5 y6 2)) := Lib.hid (ff (by rintro ⟨_, _, h1, h2⟩; simp [at7] at h2; omega))
        have ds : decide (1 ≤ s) = true := decide_eq_true (by omega)
        subst xu0
        subst xy0
        subst xu1
        subst xy1
        subst xu3
        subst xy3
        subst xu4
        subst xy4
        subst xu5
        subst xy5
        subst xu6
        subst xy6
        clear xu2 xy2
        go_wp2_with (first | (go_at_call 18; (first | (with_reducible refine (calls_ext (Has_is a0 a1 u2 a3 a4 a5 a6 _ _ true HH.out _)).mono ?_) | (with_reducible refine (calls_to_ext (Has_is a0 a1 u2 a3 a4 a5 a6 _ _ true HH.out _)).mono ?_)); rintro e w1 ⟨rfl, X, rfl⟩; have hX := X.size; (try simp only [World.size_alloc] at hX)) | (go_at_call 18; (first | (with_reducible refine (calls_ext (Has_is a0 a1 y2 a3 a4 a5 a6 _ _ false HN.out _)).mono ?_) | (with_reducible refine (calls_to_ext (Has_is a0 a1 y2 a3 a4 a5 a6 _ _ false HN.out _)).mono ?_)); rintro e w1 ⟨rfl, X, rfl⟩; have hX := X.size; (try simp only [World.size_alloc] at hX)) | (go_at_call 17; (first | (with_reducible refine (calls_ext (Over_is _ _ _ _ _ _ _ _ _ _ _ _ _ _ true (tt (by omega)) _)).mono ?_) | (with_reducible refine (calls_to_ext (Over_is _ _ _ _ _ _ _ _ _ _ _ _ _ _ true (tt (by omega)) _)).mono ?_)); rintro e w1 ⟨rfl, X, rfl⟩; have hX := X.size; (try simp only [World.size_alloc] at hX)) | (go_at_call 19; (first | (with_reducible refine (calls_ext (awake03 _)).mono ?_) | (with_reducible refine (calls_to_ext (awake03 _)).mono ?_)); rintro e w1 ⟨rfl, X, rfl⟩; have hX := X.size; (try simp only [World.size_alloc] at hX)))
        refine wp_loop_rounds 8 ?_
        repeat any_goals (rw [rounds_succ]; go_wp2_with (first | (go_at_call 18; (first | (with_reducible refine (calls_ext (Has_is a0 a1 u2 a3 a4 a5 a6 _ _ true HH.out _)).mono ?_) | (with_reducible refine (calls_to_ext (Has_is a0 a1 u2 a3 a4 a5 a6 _ _ true HH.out _)).mono ?_)); rintro e w1 ⟨rfl, X, rfl⟩; have hX := X.size; (try simp only [World.size_alloc] at hX)) | (go_at_call 18; (first | (with_reducible refine (calls_ext (Has_is a0 a1 y2 a3 a4 a5 a6 _ _ false HN.out _)).mono ?_) | (with_reducible refine (calls_to_ext (Has_is a0 a1 y2 a3 a4 a5 a6 _ _ false HN.out _)).mono ?_)); rintro e w1 ⟨rfl, X, rfl⟩; have hX := X.size; (try simp only [World.size_alloc] at hX)) | (go_at_call 17; (first | (with_reducible refine (calls_ext (Over_is _ _ _ _ _ _ _ _ _ _ _ _ _ _ true (tt (by omega)) _)).mono ?_) | (with_reducible refine (calls_to_ext (Over_is _ _ _ _ _ _ _ _ _ _ _ _ _ _ true (tt (by omega)) _)).mono ?_)); rintro e w1 ⟨rfl, X, rfl⟩; have hX := X.size; (try simp only [World.size_alloc] at hX)) | (go_at_call 19; (first | (with_reducible refine (calls_ext (awake03 _)).mono ?_) | (with_reducible refine (calls_to_ext (awake03 _)).mono ?_)); rintro e w1 ⟨rfl, X, rfl⟩; have hX := X.size; (try simp only [World.size_alloc] at hX))); (try (go_quiet (fail); go_wp2_with (first | (go_at_call 18; (first | (with_reducible refine (calls_ext (Has_is a0 a1 u2 a3 a4 a5 a6 _ _ true HH.out _)).mono ?_) | (with_reducible refine (calls_to_ext (Has_is a0 a1 u2 a3 a4 a5 a6 _ _ true HH.out _)).mono ?_)); rintro e w1 ⟨rfl, X, rfl⟩; have hX := X.size; (try simp only [World.size_alloc] at hX)) | (go_at_call 18; (first | (with_reducible refine (calls_ext (Has_is a0 a1 y2 a3 a4 a5 a6 _ _ false HN.out _)).mono ?_) | (with_reducible refine (calls_to_ext (Has_is a0 a1 y2 a3 a4 a5 a6 _ _ false HN.out _)).mono ?_)); rintro e w1 ⟨rfl, X, rfl⟩; have hX := X.size; (try simp only [World.size_alloc] at hX)) | (go_at_call 17; (first | (with_reducible refine (calls_ext (Over_is _ _ _ _ _ _ _ _ _ _ _ _ _ _ true (tt (by omega)) _)).mono ?_) | (with_reducible refine (calls_to_ext (Over_is _ _ _ _ _ _ _ _ _ _ _ _ _ _ true (tt (by omega)) _)).mono ?_)); rintro e w1 ⟨rfl, X, rfl⟩; have hX := X.size; (try simp only [World.size_alloc] at hX)) | (go_at_call 19; (first | (with_reducible refine (calls_ext (awake03 _)).mono ?_) | (with_reducible refine (calls_to_ext (awake03 _)).mono ?_)); rintro e w1 ⟨rfl, X, rfl⟩; have hX := X.size; (try simp only [World.size_alloc] at hX))))))
        have hbw := HBW.out
        go_ret
        exact ⟨rfl, by (repeat' (first | (with_reducible exact Below.refl _ _) | (with_reducible assumption) | (with_reducible refine Below.setCell ?_ ?_ _) | (with_reducible refine Below.alloc ?_ ?_ _) | (with_reducible refine Below.drew ?_) | (with_reducible refine below_drewN ?_ _) | (with_reducible refine Ext.grown _ ?_ ?_) | (with_reducible exact Nat.le_refl _) | omega | (simp only [World.size_alloc, World.size_setCell, World.size_drew]; omega) | (simp; omega) | (simp; done)))⟩
      · have xu0 : a0 = u0 := by rw [hu0]; exact (if_neg (by omega)).symm
        have xy0 : a0 = y0 := by rw [hy0]; exact (if_neg (by omega)).symm
        have xu1 : a1 = u1 := by rw [hu1]; exact (if_neg (by omega)).symm
        have xy1 : a1 = y1 := by rw [hy1]; exact (if_neg (by omega)).symm
        have xu2 : u2 = max a2 s := by rw [hu2]; exact if_pos rfl
        have xy2 : y2 = a2 := by rw [hy2]; exact if_neg (by omega)
        have xu3 : a3 = u3 := by rw [hu3]; exact (if_neg (by omega)).symm
        have xy3 : a3 = y3 := by rw [hy3]; exact (if_neg (by omega)).symm
        have xu4 : a4 = u4 := by rw [hu4]; exact (if_neg (by omega)).symm
        have xy4 : a4 = y4 := by rw [hy4]; exact (if_neg (by omega)).symm
        have xu5 : a5 = u5 := by rw [hu5]; exact (if_neg (by omega)).symm
        have xy5 : a5 = y5 := by rw [hy5]; exact (if_neg (by omega)).symm
        have xu6 : a6 = u6 := by rw [hu6]; exact (if_neg (by omega)).symm
        have xy6 : a6 = y6 := by rw [hy6]; exact (if_neg (by omega)).symm
        clear hu0 hy0 hu1 hy1 hu2 hy2 hu3 hy3 hu4 hy4 hu5 hy5 hu6 hy6
        have lu : a2 ≤ u2 := by omega
        have ly : y2 ≤ a2 := by omega
        have HH : Hid (false = decide (0 ≤ (2 : Int) ∧ (2 : Int) < 7 ∧ 1 ≤ s ∧ s ≤ at7 u0 u1 u2 u3 u4 u5 u6 2)) := Lib.hid (ff (by omega))
        have HN : Hid (false = decide (0 ≤ (2 : Int) ∧ (2 : Int) < 7 ∧ 1 ≤ s ∧ s ≤ at7 y0 y1 y2 y3 y4 y5 y6 2)) := Lib.hid (ff (by rintro ⟨_, _, h1, h2⟩; simp [at7] at h2; omega))
        have ds : decide (1 ≤ s) = false := decide_eq_false (by omega)
        subst xu0
        subst xy0
        subst xu1
        subst xy1
        subst xu3
        subst xy3
        subst xu4
        subst xy4
        subst xu5
        subst xy5
        subst xu6
        subst xy6
        clear xu2 xy2
        go_wp2_with (first | (go_at_call 18; (first | (with_reducible refine (calls_ext (Has_is a0 a1 u2 a3 a4 a5 a6 _ _ false HH.out _)).mono ?_) | (with_reducible refine (calls_to_ext (Has_is a0 a1 u2 a3 a4 a5 a6 _ _ false HH.out _)).mono ?_)); rintro e w1 ⟨rfl, X, rfl⟩; have hX := X.size; (try simp only [World.size_alloc] at hX)) | (go_at_call 18; (first | (with_reducible refine (calls_ext (Has_is a0 a1 y2 a3 a4 a5 a6 _ _ false HN.out _)).mono ?_) | (with_reducible refine (calls_to_ext (Has_is a0 a1 y2 a3 a4 a5 a6 _ _ false HN.out _)).mono ?_)); rintro e w1 ⟨rfl, X, rfl⟩; have hX := X.size; (try simp only [World.size_alloc] at hX)) | (go_at_call 17; (first | (with_reducible refine (calls_ext (Over_is _ _ _ _ _ _ _ _ _ _ _ _ _ _ true (tt (by omega)) _)).mono ?_) | (with_reducible refine (calls_to_ext (Over_is _ _ _ _ _ _ _ _ _ _ _ _ _ _ true (tt (by omega)) _)).mono ?_)); rintro e w1 ⟨rfl, X, rfl⟩; have hX := X.size; (try simp only [World.size_alloc] at hX)) | (go_at_call 19; (first | (with_reducible refine (calls_ext (awake03 _)).mono ?_) | (with_reducible refine (calls_to_ext (awake03 _)).mono ?_)); rintro e w1 ⟨rfl, X, rfl⟩; have hX := X.size; (try simp only [World.size_alloc] at hX)))
        refine wp_loop_rounds 8 ?_
        repeat any_goals (rw [rounds_succ]; go_wp2_with (first | (go_at_call 18; (first | (with_reducible refine (calls_ext (Has_is a0 a1 u2 a3 a4 a5 a6 _ _ false HH.out _)).mono ?_) | (with_reducible refine (calls_to_ext (Has_is a0 a1 u2 a3 a4 a5 a6 _ _ false HH.out _)).mono ?_)); rintro e w1 ⟨rfl, X, rfl⟩; have hX := X.size; (try simp only [World.size_alloc] at hX)) | (go_at_call 18; (first | (with_reducible refine (calls_ext (Has_is a0 a1 y2 a3 a4 a5 a6 _ _ false HN.out _)).mono ?_) | (with_reducible refine (calls_to_ext (Has_is a0 a1 y2 a3 a4 a5 a6 _ _ false HN.out _)).mono ?_)); rintro e w1 ⟨rfl, X, rfl⟩; have hX := X.size; (try simp only [World.size_alloc] at hX)) | (go_at_call 17; (first | (with_reducible refine (calls_ext (Over_is _ _ _ _ _ _ _ _ _ _ _ _ _ _ true (tt (by omega)) _)).mono ?_) | (with_reducible refine (calls_to_ext (Over_is _ _ _ _ _ _ _ _ _ _ _ _ _ _ true (tt (by omega)) _)).mono ?_)); rintro e w1 ⟨rfl, X, rfl⟩; have hX := X.size; (try simp only [World.size_alloc] at hX)) | (go_at_call 19; (first | (with_reducible refine (calls_ext (awake03 _)).mono ?_) | (with_reducible refine (calls_to_ext (awake03 _)).mono ?_)); rintro e w1 ⟨rfl, X, rfl⟩; have hX := X.size; (try simp only [World.size_alloc] at hX))); (try (go_quiet (fail); go_wp2_with (first | (go_at_call 18; (first | (with_reducible refine (calls_ext (Has_is a0 a1 u2 a3 a4 a5 a6 _ _ false HH.out _)).mono ?_) | (with_reducible refine (calls_to_ext (Has_is a0 a1 u2 a3 a4 a5 a6 _ _ false HH.out _)).mono ?_)); rintro e w1 ⟨rfl, X, rfl⟩; have hX := X.size; (try simp only [World.size_alloc] at hX)) | (go_at_call 18; (first | (with_reducible refine (calls_ext (Has_is a0 a1 y2 a3 a4 a5 a6 _ _ false HN.out _)).mono ?_) | (with_reducible refine (calls_to_ext (Has_is a0 a1 y2 a3 a4 a5 a6 _ _ false HN.out _)).mono ?_)); rintro e w1 ⟨rfl, X, rfl⟩; have hX := X.size; (try simp only [World.size_alloc] at hX)) | (go_at_call 17; (first | (with_reducible refine (calls_ext (Over_is _ _ _ _ _ _ _ _ _ _ _ _ _ _ true (tt (by omega)) _)).mono ?_) | (with_reducible refine (calls_to_ext (Over_is _ _ _ _ _ _ _ _ _ _ _ _ _ _ true (tt (by omega)) _)).mono ?_)); rintro e w1 ⟨rfl, X, rfl⟩; have hX := X.size; (try simp only [World.size_alloc] at hX)) | (go_at_call 19; (first | (with_reducible refine (calls_ext (awake03 _)).mono ?_) | (with_reducible refine (calls_to_ext (awake03 _)).mono ?_)); rintro e w1 ⟨rfl, X, rfl⟩; have hX := X.size; (try simp only [World.size_alloc] at hX))))))
        have hbw := HBW.out
        go_ret
        exact ⟨rfl, by (repeat' (first | (with_reducible exact Below.refl _ _) | (with_reducible assumption) | (with_reducible refine Below.setCell ?_ ?_ _) | (with_reducible refine Below.alloc ?_ ?_ _) | (with_reducible refine Below.drew ?_) | (with_reducible refine below_drewN ?_ _) | (with_reducible refine Ext.grown _ ?_ ?_) | (with_reducible exact Nat.le_refl _) | omega | (simp only [World.size_alloc, World.size_setCell, World.size_drew]; omega) | (simp; omega) | (simp; done)))⟩
    · by_cases hs1 : 1 ≤ s
      · have xu0 : a0 = u0 := by rw [hu0]; exact (if_neg (by omega)).symm
        have xy0 : a0 = y0 := by rw [hy0]; exact (if_neg (by omega)).symm
        have xu1 : a1 = u1 := by rw [hu1]; exact (if_neg (by omega)).symm
        have xy1 : a1 = y1 := by rw [hy1]; exact (if_neg (by omega)).symm
        have xu2 : a2 = u2 := by rw [hu2]; exact (if_neg (by omega)).symm
        have xy2 : a2 = y2 := by rw [hy2]; exact (if_neg (by omega)).symm
        have xu3 : u3 = max a3 s := by rw [hu3]; exact if_pos rfl
        have xy3 : y3 = min a3 (s - 1) := by rw [hy3]; exact if_pos ⟨rfl, by omega⟩
        have xu4 : a4 = u4 := by rw [hu4]; exact (if_neg (by omega)).symm
        have xy4 : a4 = y4 := by rw [hy4]; exact (if_neg (by omega)).symm
        have xu5 : a5 = u5 := by rw [hu5]; exact (if_neg (by omega)).symm
        have xy5 : a5 = y5 := by rw [hy5]; exact (if_neg (by omega)).symm
        have xu6 : a6 = u6 := by rw [hu6]; exact (if_neg (by omega)).symm
        have xy6 : a6 = y6 := by rw [hy6]; exact (if_neg (by omega)).symm
        clear hu0 hy0 hu1 hy1 hu2 hy2 hu3 hy3 hu4 hy4 hu5 hy5 hu6 hy6
        have lu : a3 ≤ u3 := by omega
        have ly : y3 ≤ a3 := by omega
        have HH : Hid (true = decide (0 ≤ (3 : Int) ∧ (3 : Int) < 7 ∧ 1 ≤ s ∧ s ≤ at7 u0 u1 u2 u3 u4 u5 u6 3)) := Lib.hid (tt (by refine ⟨by omega, by omega, by omega, ?_⟩; simp [at7]; omega))
        have HN : Hid (false = decide (0 ≤ (3 : Int) ∧ (3 : Int) < 7 ∧ 1 ≤ s ∧ s ≤ at7 y0 y1 y2 y3 y4 y5 y6 3)) := Lib.hid (ff (by rintro ⟨_, _, h1, h2⟩; simp [at7] at h2; omega))
        have ds : decide (1 ≤ s) = true := decide_eq_true (by omega)
        subst xu0
        subst xy0
        subst xu1
        subst xy1
        subst xu2
        subst xy2
        subst xu4
        subst xy4
        subst xu5
        subst xy5
        subst xu6
        subst xy6
        clear xu3 xy3
        go_wp2_with (first | (go_at_call 18; (first | (with_reducible refine (calls_ext (Has_is a0 a1 a2 u3 a4 a5 a6 _ _ true HH.out _)).mono ?_) | (with_reducible refine (calls_to_ext (Has_is a0 a1 a2 u3 a4 a5 a6 _ _ true HH.out _)).mono ?_)); rintro e w1 ⟨rfl, X, rfl⟩; have hX := X.size; (try simp only [World.size_alloc] at hX)) | (go_at_call 18; (first | (with_reducible refine (calls_ext (Has_is a0 a1 a2 y3 a4 a5 a6 _ _ false HN.out _)).mono ?_) | (with_reducible refine (calls_to_ext (Has_is a0 a1 a2 y3 a4 a5 a6 _ _ false HN.out _)).mono ?_)); rintro e w1 ⟨rfl, X, rfl⟩; have hX := X.size; (try simp only [World.size_alloc] at hX)) | (go_at_call 17; (first | (with_reducible refine (calls_ext (Over_is _ _ _ _ _ _ _ _ _ _ _ _ _ _ true (tt (by omega)) _)).mono ?_) | (with_reducible refine (calls_to_ext (Over_is _ _ _ _ _ _ _ _ _ _ _ _ _ _ true (tt (by omega)) _)).mono ?_)); rintro e w1 ⟨rfl, X, rfl⟩; have hX := X.size; (try simp only [World.size_alloc] at hX)) | (go_at_call 19; (first | (with_reducible refine (calls_ext (awake03 _)).mono ?_) | (with_reducible refine (calls_to_ext (awake03 _)).mono ?_)); rintro e w1 ⟨rfl, X, rfl⟩; have hX := X.size; (try simp only [World.size_alloc] at hX)))
        refine wp_loop_rounds 8 ?_
        repeat any_goals (rw [rounds_succ]; go_wp2_with (first | (go_at_call 18; (first | (with_reducible refine (calls_ext (Has_is a0 a1 a2 u3 a4 a5 a6 _ _ true HH.out _)).mono ?_) | (with_reducible refine (calls_to_ext (Has_is a0 a1 a2 u3 a4 a5 a6 _ _ true HH.out _)).mono ?_)); rintro e w1 ⟨rfl, X, rfl⟩; have hX := X.size; (try simp only [World.size_alloc] at hX)) | (go_at_call 18; (first | (with_reducible refine (calls_ext (Has_is a0 a1 a2 y3 a4 a5 a6 _ _ false HN.out _)).mono ?_) | (with_reducible refine (calls_to_ext (Has_is a0 a1 a2 y3 a4 a5 a6 _ _ false HN.out _)).mono ?_)); rintro e w1 ⟨rfl, X, rfl⟩; have hX := X.size; (try simp only [World.size_alloc] at hX)) | (go_at_call 17; (first | (with_reducible refine (calls_ext (Over_is _ _ _ _ _ _ _ _ _ _ _ _ _ _ true (tt (by omega)) _)).mono ?_) | (with_reducible refine (calls_to_ext (Over_is _ _ _ _ _ _ _ _ _ _ _ _ _ _ true (tt (by omega)) _)).mono ?_)); rintro e w1 ⟨rfl, X, rfl⟩; have hX := X.size; (try simp only [World.size_alloc] at hX)) | (go_at_call 19; (first | (with_reducible refine (calls_ext (awake03 _)).mono ?_) | (with_reducible refine (calls_to_ext (awake03 _)).mono ?_)); rintro e w1 ⟨rfl, X, rfl⟩; have hX := X.size; (try simp only [World.size_alloc] at hX))); (try (go_quiet (fail); go_wp2_with (first | (go_at_call 18; (first | (with_reducible refine (calls_ext (Has_is a0 a1 a2 u3 a4 a5 a6 _ _ true HH.out _)).mono ?_) | (with_reducible refine (calls_to_ext (Has_is a0 a1 a2 u3 a4 a5 a6 _ _ true HH.out _)).mono ?_)); rintro e w1 ⟨rfl, X, rfl⟩; have hX := X.size; (try simp only [World.size_alloc] at hX)) | (go_at_call 18; (first | (with_reducible refine (calls_ext (Has_is a0 a1 a2 y3 a4 a5 a6 _ _ false HN.out _)).mono ?_) | (with_reducible refine (calls_to_ext (Has_is a0 a1 a2 y3 a4 a5 a6 _ _ false HN.out _)).mono ?_)); rintro e w1 ⟨rfl, X, rfl⟩; have hX := X.size; (try simp only [World.size_alloc] at hX)) | (go_at_call 17; (first | (with_reducible refine (calls_ext (Over_is _ _ _ _ _ _ _ _ _ _ _ _ _ _ true (tt (by omega)) _)).mono ?_) | (with_reducible refine (calls_to_ext (Over_is _ _ _ _ _ _ _ _ _ _ _ _ _ _ true (tt (by omega)) _)).mono ?_)); rintro e w1 ⟨rfl, X, rfl⟩; have hX := X.size; (try simp only [World.size_alloc] at hX)) | (go_at_call 19; (first | (with_reducible refine (calls_ext (awake03 _)).mono ?_) | (with_reducible refine (calls_to_ext (awake03 _)).mono ?_)); rintro e w1 ⟨rfl, X, rfl⟩; have hX := X.size; (try simp only [World.size_alloc] at hX))))))
        have hbw := HBW.out
        go_ret
        exact ⟨rfl, by (repeat' (first | (with_reducible exact Below.refl _ _) | (with_reducible assumption) | (with_reducible refine Below.setCell ?_ ?_ _) | (with_reducible refine Below.alloc ?_ ?_ _) | (with_reducible refine Below.drew ?_) | (with_reducible refine below_drewN ?_ _) | (with_reducible refine Ext.grown _ ?_ ?_) | (with_reducible exact Nat.le_refl _) | omega | (simp only [World.size_alloc, World.size_setCell, World.size_drew]; omega) | (simp; omega) | (simp; done)))⟩
      · have xu0 : a0 = u0 := by rw [hu0]; exact (if_neg (by omega)).symm
        have xy0 : a0 = y0 := by rw [hy0]; exact (if_neg (by omega)).symm
        have xu1 : a1 = u1 := by rw [hu1]; exact (if_neg (by omega)).symm
        have xy1 : a1 = y1 := by rw [hy1]; exact (if_neg (by omega)).symm
        have xu2 : a2 = u2 := by rw [hu2]; exact (if_neg (by omega)).symm
        have xy2 : a2 = y2 := by rw [hy2]; exact (if_neg (by omega)).symm
        have xu3 : u3 = max a3 s := by rw [hu3]; exact if_pos rfl
        have xy3 : y3 = a3 := by rw [hy3]; exact if_neg (by omega)
        have xu4 : a4 = u4 := by rw [hu4]; exact (if_neg (by omega)).symm
        have xy4 : a4 = y4 := by rw [hy4]; exact (if_neg (by omega)).symm
        have xu5 : a5 = u5 := by rw [hu5]; exact (if_neg (by omega)).symm
        have xy5 : a5 = y5 := by rw [hy5]; exact (if_neg (by omega)).symm
        have xu6 : a6 = u6 := by rw [hu6]; exact (if_neg (by omega)).symm
        have xy6 : a6 = y6 := by rw [hy6]; exact (if_neg (by omega)).symm
        clear hu0 hy0 hu1 hy1 hu2 hy2 hu3 hy3 hu4 hy4 hu5 hy5 hu6 hy6
        have lu : a3 ≤ u3 := by omega
        have ly : y3 ≤ a3 := by omega
        have HH : Hid (false = decide (0 ≤ (3 : Int) ∧ (3 : Int) < 7 ∧ 1 ≤ s ∧ s ≤ at7 u0 u1 u2 u3 u4 u5 u6 3)) := Lib.hid (ff (by omega))
        have HN : Hid (false = decide (0 ≤ (3 : Int) ∧ (3 : Int) < 7 ∧ 1 ≤ s ∧ s ≤ at7 y0 y1 y2 y3 y4 y5 y6 3)) := Lib.hid (ff (by rintro ⟨_, _, h1, h2⟩; simp [at7] at h2; omega))
        have ds : decide (1 ≤ s) = false := decide_eq_false (by omega)
        subst xu0
        subst xy0
        subst xu1
        subst xy1
        subst xu2
        subst xy2
        subst xu4
        subst xy4
        subst xu5
        subst xy5
        subst xu6
        subst xy6
        clear xu3 xy3
        go_wp2_with (first | (go_at_call 18; (first | (with_reducible refine (calls_ext (Has_is a0 a1 a2 u3 a4 a5 a6 _ _ false HH.out _)).mono ?_) | (with_reducible refine (calls_to_ext (Has_is a0 a1 a2 u3 a4 a5 a6 _ _ false HH.out _)).mono ?_)); rintro e w1 ⟨rfl, X, rfl⟩; have hX := X.size; (try simp only [World.size_alloc] at hX)) | (go_at_call 18; (first | (with_reducible refine (calls_ext (Has_is a0 a1 a2 y3 a4 a5 a6 _ _ false HN.out _)).mono ?_) | (with_reducible refine (calls_to_ext (Has_is a0 a1 a2 y3 a4 a5 a6 _ _ false HN.out _)).mono ?_)); rintro e w1 ⟨rfl, X, rfl⟩; have hX := X.size; (try simp only [World.size_alloc] at hX)) | (go_at_call 17; (first | (with_reducible refine (calls_ext (Over_is _ _ _ _ _ _ _ _ _ _ _ _ _ _ true (tt (by omega)) _)).mono ?_) | (with_reducible refine (calls_to_ext (Over_is _ _ _ _ _ _ _ _ _ _ _ _ _ _ true (tt (by omega)) _)).mono ?_)); rintro e w1 ⟨rfl, X, rfl⟩; have hX := X.size; (try simp only [World.size_alloc] at hX)) | (go_at_call 19; (first | (with_reducible refine (calls_ext (awake03 _)).mono ?_) | (with_reducible refine (calls_to_ext (awake03 _)).mono ?_)); rintro e w1 ⟨rfl, X, rfl⟩; have hX := X.size; (try simp only [World.size_alloc] at hX)))
        refine wp_loop_rounds 8 ?_
        repeat any_goals (rw [rounds_succ]; go_wp2_with (first | (go_at_call 18; (first | (with_reducible refine (calls_ext (Has_is a0 a1 a2 u3 a4 a5 a6 _ _ false HH.out _)).mono ?_) | (with_reducible refine (calls_to_ext (Has_is a0 a1 a2 u3 a4 a5 a6 _ _ false HH.out _)).mono ?_)); rintro e w1 ⟨rfl, X, rfl⟩; have hX := X.size; (try simp only [World.size_alloc] at hX)) | (go_at_call 18; (first | (with_reducible refine (calls_ext (Has_is a0 a1 a2 y3 a4 a5 a6 _ _ false HN.out _)).mono ?_) | (with_reducible refine (calls_to_ext (Has_is a0 a1 a2 y3 a4 a5 a6 _ _ false HN.out _)).mono ?_)); rintro e w1 ⟨rfl, X, rfl⟩; have hX := X.size; (try simp only [World.size_alloc] at hX)) | (go_at_call 17; (first | (with_reducible refine (calls_ext (Over_is _ _ _ _ _ _ _ _ _ _ _ _ _ _ true (tt (by omega)) _)).mono ?_) | (with_reducible refine (calls_to_ext (Over_is _ _ _ _ _ _ _ _ _ _ _ _ _ _ true (tt (by omega)) _)).mono ?_)); rintro e w1 ⟨rfl, X, rfl⟩; have hX := X.size; (try simp only [World.size_alloc] at hX)) | (go_at_call 19; (first | (with_reducible refine (calls_ext (awake03 _)).mono ?_) | (with_reducible refine (calls_to_ext (awake03 _)).mono ?_)); rintro e w1 ⟨rfl, X, rfl⟩; have hX := X.size; (try simp only [World.size_alloc] at hX))); (try (go_quiet (fail); go_wp2_with (first | (go_at_call 18; (first | (with_reducible refine (calls_ext (Has_is a0 a1 a2 u3 a4 a5 a6 _ _ false HH.out _)).mono ?_) | (with_reducible refine (calls_to_ext (Has_is a0 a1 a2 u3 a4 a5 a6 _ _ false HH.out _)).mono ?_)); rintro e w1 ⟨rfl, X, rfl⟩; have hX := X.size; (try simp only [World.size_alloc] at hX)) | (go_at_call 18; (first | (with_reducible refine (calls_ext (Has_is a0 a1 a2 y3 a4 a5 a6 _ _ false HN.out _)).mono ?_) | (with_reducible refine (calls_to_ext (Has_is a0 a1 a2 y3 a4 a5 a6 _ _ false HN.out _)).mono ?_)); rintro e w1 ⟨rfl, X, rfl⟩; have hX := X.size; (try simp only [World.size_alloc] at hX)) | (go_at_call 17; (first | (with_reducible refine (calls_ext (Over_is _ _ _ _ _ _ _ _ _ _ _ _ _ _ true (tt (by omega)) _)).mono ?_) | (with_reducible refine (calls_to_ext (Over_is _ _ _ _ _ _ _ _ _ _ _ _ _ _ true (tt (by omega)) _)).mono ?_)); rintro e w1 ⟨rfl, X, rfl⟩; have hX := X.size; (try simp only [World.size_alloc] at hX)) | (go_at_call 19; (first | (with_reducible refine (calls_ext (awake03 _)).mono ?_) | (with_reducible refine (calls_to_ext (awake03 _)).mono ?_)); rintro e w1 ⟨rfl, X, rfl⟩; have hX := X.size; (try simp only [World.size_alloc] at hX))))))
        have hbw := HBW.out
        go_ret
        exact ⟨rfl, by (repeat' (first | (with_reducible exact Below.refl _ _) | (with_reducible assumption) | (with_reducible refine Below.setCell ?_ ?_ _) | (with_reducible refine Below.alloc ?_ ?_ _) | (with_reducible refine Below.drew ?_) | (with_reducible refine below_drewN ?_ _) | (with_reducible refine Ext.grown _ ?_ ?_) | (with_reducible exact Nat.le_refl _) | omega | (simp only [World.size_alloc, World.size_setCell, World.size_drew]; omega) | (simp; omega) | (simp; done)))⟩
    · by_cases hs1 : 1 ≤ s
      · have xu0 : a0 = u0 := by rw [hu0]; exact (if_neg (by omega)).symm
        have xy0 : a0 = y0 := by rw [hy0]; exact (if_neg (by omega)).symm
        have xu1 : a1 = u1 := by rw [hu1]; exact (if_neg (by omega)).symm
        have xy1 : a1 = y1 := by rw [hy1]; exact (if_neg (by omega)).symm
        have xu2 : a2 = u2 := by rw [hu2]; exact (if_neg (by omega)).symm
        have xy2 : a2 = y2 := by rw [hy2]; exact (if_neg (by omega)).symm
        have xu3 : a3 = u3 := by rw [hu3]; exact (if_neg (by omega)).symm
        have xy3 : a3 = y3 := by rw [hy3]; exact (if_neg (by omega)).symm
        have xu4 : u4 = max a4 s := by rw [hu4]; exact if_pos rfl
        have xy4 : y4 = min a4 (s - 1) := by rw [hy4]; exact if_pos ⟨rfl, by omega⟩
        have xu5 : a5 = u5 := by rw [hu5]; exact (if_neg (by omega)).symm
        have xy5 : a5 = y5 := by rw [hy5]; exact (if_neg (by omega)).symm
        have xu6 : a6 = u6 := by rw [hu6]; exact (if_neg (by omega)).symm
        have xy6 : a6 = y6 := by rw [hy6]; exact (if_neg (by omega)).symm
        clear hu0 hy0 hu1 hy1 hu2 hy2 hu3 hy3 hu4 hy4 hu5 hy5 hu6 hy6
        have lu : a4 ≤ u4 := by omega
        have ly : y4 ≤ a4 := by omega
        have HH : Hid (true = decide (0 ≤ (4 : Int) ∧ (4 : Int) < 7 ∧ 1 ≤ s ∧ s ≤ at7 u0 u1 u2 u3 u4 u5 u6 4)) := Lib.hid (tt (by refine ⟨by omega, by omega, by omega, ?_⟩; simp [at7]; omega))
        have HN : Hid (false = decide (0 ≤ (4 : Int) ∧ (4 : Int) < 7 ∧ 1 ≤ s ∧ s ≤ at7 y0 y1 y2 y3 y4 y5 y6 4)) := Lib.hid (ff (by rintro ⟨_, _, h1, h2⟩; simp [at7] at h2; omega))
        have ds : decide (1 ≤ s) = true := decide_eq_true (by omega)
        subst xu0
        subst xy0
        subst xu1
        subst xy1
        subst xu2
        subst xy2
        subst xu3
        subst xy3
        subst xu5
        subst xy5
        subst xu6
        subst xy6
        clear xu4 xy4
        go_wp2_with (first | (go_at_call 18; (first | (with_reducible refine (calls_ext (Has_is a0 a1 a2 a3 u4 a5 a6 _ _ true HH.out _)).mono ?_) | (with_reducible refine (calls_to_ext (Has_is a0 a1 a2 a3 u4 a5 a6 _ _ true HH.out _)).mono ?_)); rintro e w1 ⟨rfl, X, rfl⟩; have hX := X.size; (try simp only [World.size_alloc] at hX)) | (go_at_call 18; (first | (with_reducible refine (calls_ext (Has_is a0 a1 a2 a3 y4 a5 a6 _ _ false HN.out _)).mono ?_) | (with_reducible refine (calls_to_ext (Has_is a0 a1 a2 a3 y4 a5 a6 _ _ false HN.out _)).mono ?_)); rintro e w1 ⟨rfl, X, rfl⟩; have hX := X.size; (try simp only [World.size_alloc] at hX)) | (go_at_call 17; (first | (with_reducible refine (calls_ext (Over_is _ _ _ _ _ _ _ _ _ _ _ _ _ _ true (tt (by omega)) _)).mono ?_) | (with_reducible refine (calls_to_ext (Over_is _ _ _ _ _ _ _ _ _ _ _ _ _ _ true (tt (by omega)) _)).mono ?_)); rintro e w1 ⟨rfl, X, rfl⟩; have hX := X.size; (try simp only [World.size_alloc] at hX)) | (go_at_call 19; (first | (with_reducible refine (calls_ext (awake03 _)).mono ?_) | (with_reducible refine (calls_to_ext (awake03 _)).mono ?_)); rintro e w1 ⟨rfl, X, rfl⟩; have hX := X.size; (try simp only [World.size_alloc] at hX)))
        refine wp_loop_rounds 8 ?_
        repeat any_goals (rw [rounds_succ]; go_wp2_with (first | (go_at_call 18; (first | (with_reducible refine (calls_ext (Has_is a0 a1 a2 a3 u4 a5 a6 _ _ true HH.out _)).mono ?_) | (with_reducible refine (calls_to_ext (Has_is a0 a1 a2 a3 u4 a5 a6 _ _ true HH.out _)).mono ?_)); rintro e w1 ⟨rfl, X, rfl⟩; have hX := X.size; (try simp only [World.size_alloc] at hX)) | (go_at_call 18; (first | (with_reducible refine (calls_ext (Has_is a0 a1 a2 a3 y4 a5 a6 _ _ false HN.out _)).mono ?_) | (with_reducible refine (calls_to_ext (Has_is a0 a1 a2 a3 y4 a5 a6 _ _ false HN.out _)).mono ?_)); rintro e w1 ⟨rfl, X, rfl⟩; have hX := X.size; (try simp only [World.size_alloc] at hX)) | (go_at_call 17; (first | (with_reducible refine (calls_ext (Over_is _ _ _ _ _ _ _ _ _ _ _ _ _ _ true (tt (by omega)) _)).mono ?_) | (with_reducible refine (calls_to_ext (Over_is _ _ _ _ _ _ _ _ _ _ _ _ _ _ true (tt (by omega)) _)).mono ?_)); rintro e w1 ⟨rfl, X, rfl⟩; have hX := X.size; (try simp only [World.size_alloc] at hX)) | (go_at_call 19; (first | (with_reducible refine (calls_ext (awake03 _)).mono ?_) | (with_reducible refine (calls_to_ext (awake03 _)).mono ?_)); rintro e w1 ⟨rfl, X, rfl⟩; have hX := X.size; (try simp only [World.size_alloc] at hX))); (try (go_quiet (fail); go_wp2_with (first | (go_at_call 18; (first | (with_reducible refine (calls_ext (Has_is a0 a1 a2 a3 u4 a5 a6 _ _ true HH.out _)).mono ?_) | (with_reducible refine (calls_to_ext (Has_is a0 a1 a2 a3 u4 a5 a6 _ _ true HH.out _)).mono ?_)); rintro e w1 ⟨rfl, X, rfl⟩; have hX := X.size; (try simp only [World.size_alloc] at hX)) | (go_at_call 18; (first | (with_reducible refine (calls_ext (Has_is a0 a1 a2 a3 y4 a5 a6 _ _ false HN.out _)).mono ?_) | (with_reducible refine (calls_to_ext (Has_is a0 a1 a2 a3 y4 a5 a6 _ _ false HN.out _)).mono ?_)); rintro e w1 ⟨rfl, X, rfl⟩; have hX := X.size; (try simp only [World.size_alloc] at hX)) | (go_at_call 17; (first | (with_reducible refine (calls_ext (Over_is _ _ _ _ _ _ _ _ _ _ _ _ _ _ true (tt (by omega)) _)).mono ?_) | (with_reducible refine (calls_to_ext (Over_is _ _ _ _ _ _ _ _ _ _ _ _ _ _ true (tt (by omega)) _)).mono ?_)); rintro e w1 ⟨rfl, X, rfl⟩; have hX := X.size; (try simp only [World.size_alloc] at hX)) | (go_at_call 19; (first | (with_reducible refine (calls_ext (awake03 _)).mono ?_) | (with_reducible refine (calls_to_ext (awake03 _)).mono ?_)); rintro e w1 ⟨rfl, X, rfl⟩; have hX := X.size; (try simp only [World.size_alloc] at hX))))))
        have hbw := HBW.out
        go_ret
        exact ⟨rfl, by (repeat' (first | (with_reducible exact Below.refl _ _) | (with_reducible assumption) | (with_reducible refine Below.setCell ?_ ?_ _) | (with_reducible refine Below.alloc ?_ ?_ _) | (with_reducible refine Below.drew ?_) | (with_reducible refine below_drewN ?_ _) | (with_reducible refine Ext.grown _ ?_ ?_) | (with_reducible exact Nat.le_refl _) | omega | (simp only [World.size_alloc, World.size_setCell, World.size_drew]; omega) | (simp; omega) | (simp; done)))⟩
      · have xu0 : a0 = u0 := by rw [hu0]; exact (if_neg (by omega)).symm
        have xy0 : a0 = y0 := by rw [hy0]; exact (if_neg (by omega)).symm
        have xu1 : a1 = u1 := by rw [hu1]; exact (if_neg (by omega)).symm
        have xy1 : a1 = y1 := by rw [hy1]; exact (if_neg (by omega)).symm
        have xu2 : a2 = u2 := by rw [hu2]; exact (if_neg (by omega)).symm
        have xy2 : a2 = y2 := by rw [hy2]; exact (if_neg (by omega)).symm
        have xu3 : a3 = u3 := by rw [hu3]; exact (if_neg (by omega)).symm
        have xy3 : a3 = y3 := by rw [hy3]; exact (if_neg (by omega)).symm
        have xu4 : u4 = max a4 s := by rw [hu4]; exact if_pos rfl
        have xy4 : y4 = a4 := by rw [hy4]; exact if_neg (by omega)
        have xu5 : a5 = u5 := by rw [hu5]; exact (if_neg (by omega)).symm
        have xy5 : a5 = y5 := by rw [hy5]; exact (if_neg (by omega)).symm
        have xu6 : a6 = u6 := by rw [hu6]; exact (if_neg (by omega)).symm
        have xy6 : a6 = y6 := by rw [hy6]; exact (if_neg (by omega)).symm
        clear hu0 hy0 hu1 hy1 hu2 hy2 hu3 hy3 hu4 hy4 hu5 hy5 hu6 hy6
        have lu : a4 ≤ u4 := by omega
        have ly : y4 ≤ a4 := by omega
        have HH : Hid (false = decide (0 ≤ (4 : Int) ∧ (4 : Int) < 7 ∧ 1 ≤ s ∧ s ≤ at7 u0 u1 u2 u3 u4 u5 u6 4)) := Lib.hid (ff (by omega))
        have HN : Hid (false = decide (0 ≤ (4 : Int) ∧ (4 : Int) < 7 ∧ 1 ≤ s ∧ s ≤ at7 y0 y1 y2 y3 y4 y5 y6 4)) := Lib.hid (ff (by rintro ⟨_, _, h1, h2⟩; simp [at7] at h2; omega))
        have ds : decide (1 ≤ s) = false := decide_eq_false (by omega)
        subst xu0
        subst xy0
        subst xu1
        subst xy1
        subst xu2
        subst xy2
        subst xu3
        subst xy3
        subst xu5
        subst xy5
        subst xu6
        subst xy6
        clear xu4 xy4
        go_wp2_with (first | (go_at_call 18; (first | (with_reducible refine (calls_ext (Has_is a0 a1 a2 a3 u4 a5 a6 _ _ false HH.out _)).mono ?_) | (with_reducible refine (calls_to_ext (Has_is a0 a1 a2 a3 u4 a5 a6 _ _ false HH.out _)).mono ?_)); rintro e w1 ⟨rfl, X, rfl⟩; have hX := X.size; (try simp only [World.size_alloc] at hX)) | (go_at_call 18; (first | (with_reducible refine (calls_ext (Has_is a0 a1 a2 a3 y4 a5 a6 _ _ false HN.out _)).mono ?_) | (with_reducible refine (calls_to_ext (Has_is a0 a1 a2 a3 y4 a5 a6 _ _ false HN.out _)).mono ?_)); rintro e w1 ⟨rfl, X, rfl⟩; have hX := X.size; (try simp only [World.size_alloc] at hX)) | (go_at_call 17; (first | (with_reducible refine (calls_ext (Over_is _ _ _ _ _ _ _ _ _ _ _ _ _ _ true (tt (by omega)) _)).mono ?_) | (with_reducible refine (calls_to_ext (Over_is _ _ _ _ _ _ _ _ _ _ _ _ _ _ true (tt (by omega)) _)).mono ?_)); rintro e w1 ⟨rfl, X, rfl⟩; have hX := X.size; (try simp only [World.size_alloc] at hX)) | (go_at_call 19; (first | (with_reducible refine (calls_ext (awake03 _)).mono ?_) | (with_reducible refine (calls_to_ext (awake03 _)).mono ?_)); rintro e w1 ⟨rfl, X, rfl⟩; have hX := X.size; (try simp only [World.size_alloc] at hX)))
        refine wp_loop_rounds 8 ?_
        repeat any_goals (rw [rounds_succ]; go_wp2_with (first | (go_at_call 18; (first | (with_reducible refine (calls_ext (Has_is a0 a1 a2 a3 u4 a5 a6 _ _ false HH.out _)).mono ?_) | (with_reducible refine (calls_to_ext (Has_is a0 a1 a2 a3 u4 a5 a6 _ _ false HH.out _)).mono ?_)); rintro e w1 ⟨rfl, X, rfl⟩; have hX := X.size; (try simp only [World.size_alloc] at hX)) | (go_at_call 18; (first | (with_reducible refine (calls_ext (Has_is a0 a1 a2 a3 y4 a5 a6 _ _ false HN.out _)).mono ?_) | (with_reducible refine (calls_to_ext (Has_is a0 a1 a2 a3 y4 a5 a6 _ _ false HN.out _)).mono ?_)); rintro e w1 ⟨rfl, X, rfl⟩; have hX := X.size; (try simp only [World.size_alloc] at hX)) | (go_at_call 17; (first | (with_reducible refine (calls_ext (Over_is _ _ _ _ _ _ _ _ _ _ _ _ _ _ true (tt (by omega)) _)).mono ?_) | (with_reducible refine (calls_to_ext (Over_is _ _ _ _ _ _ _ _ _ _ _ _ _ _ true (tt (by omega)) _)).mono ?_)); rintro e w1 ⟨rfl, X, rfl⟩; have hX := X.size; (try simp only [World.size_alloc] at hX)) | (go_at_call 19; (first | (with_reducible refine (calls_ext (awake03 _)).mono ?_) | (with_reducible refine (calls_to_ext (awake03 _)).mono ?_)); rintro e w1 ⟨rfl, X, rfl⟩; have hX := X.size; (try simp only [World.size_alloc] at hX))); (try (go_quiet (fail); go_wp2_with (first | (go_at_call 18; (first | (with_reducible refine (calls_ext (Has_is a0 a1 a2 a3 u4 a5 a6 _ _ false HH.out _)).mono ?_) | (with_reducible refine (calls_to_ext (Has_is a0 a1 a2 a3 u4 a5 a6 _ _ false HH.out _)).mono ?_)); rintro e w1 ⟨rfl, X, rfl⟩; have hX := X.size; (try simp only [World.size_alloc] at hX)) | (go_at_call 18; (first | (with_reducible refine (calls_ext (Has_is a0 a1 a2 a3 y4 a5 a6 _ _ false HN.out _)).mono ?_) | (with_reducible refine (calls_to_ext (Has_is a0 a1 a2 a3 y4 a5 a6 _ _ false HN.out _)).mono ?_)); rintro e w1 ⟨rfl, X, rfl⟩; have hX := X.size; (try simp only [World.size_alloc] at hX)) | (go_at_call 17; (first | (with_reducible refine (calls_ext (Over_is _ _ _ _ _ _ _ _ _ _ _ _ _ _ true (tt (by omega)) _)).mono ?_) | (with_reducible refine (calls_to_ext (Over_is _ _ _ _ _ _ _ _ _ _ _ _ _ _ true (tt (by omega)) _)).mono ?_)); rintro e w1 ⟨rfl, X, rfl⟩; have hX := X.size; (try simp only [World.size_alloc] at hX)) | (go_at_call 19; (first | (with_reducible refine (calls_ext (awake03 _)).mono ?_) | (with_reducible refine (calls_to_ext (awake03 _)).mono ?_)); rintro e w1 ⟨rfl, X, rfl⟩; have hX := X.size; (try simp only [World.size_alloc] at hX))))))
        have hbw := HBW.out
        go_ret
        exact ⟨rfl, by (repeat' (first | (with_reducible exact Below.refl _ _) | (with_reducible assumption) | (with_reducible refine Below.setCell ?_ ?_ _) | (with_reducible refine Below.alloc ?_ ?_ _) | (with_reducible refine Below.drew ?_) | (with_reducible refine below_drewN ?_ _) | (with_reducible refine Ext.grown _ ?_ ?_) | (with_reducible exact Nat.le_refl _) | omega | (simp only [World.size_alloc, World.size_setCell, World.size_drew]; omega) | (simp; omega) | (simp; done)))⟩
    · by_cases hs1 : 1 ≤ s
      · have xu0 : a0 = u0 := by rw [hu0]; exact (if_neg (by omega)).symm
        have xy0 : a0 = y0 := by rw [hy0]; exact (if_neg (by omega)).symm
        have xu1 : a1 = u1 := by rw [hu1]; exact (if_neg (by omega)).symm
        have xy1 : a1 = y1 := by rw [hy1]; exact (if_neg (by omega)).symm
        have xu2 : a2 = u2 := by rw [hu2]; exact (if_neg (by omega)).symm
        have xy2 : a2 = y2 := by rw [hy2]; exact (if_neg (by omega)).symm
        have xu3 : a3 = u3 := by rw [hu3]; exact (if_neg (by omega)).symm
        have xy3 : a3 = y3 := by rw [hy3]; exact (if_neg (by omega)).symm
        have xu4 : a4 = u4 := by rw [hu4]; exact (if_neg (by omega)).symm
        have xy4 : a4 = y4 := by rw [hy4]; exact (if_neg (by omega)).symm
        have xu5 : u5 = max a5 s := by rw [hu5]; exact if_pos rfl
        have xy5 : y5 = min a5 (s - 1) := by rw [hy5]; exact if_pos ⟨rfl, by omega⟩
        have xu6 : a6 = u6 := by rw [hu6]; exact (if_neg (by omega)).symm
        have xy6 : a6 = y6 := by rw [hy6]; exact (if_neg (by omega)).symm
        clear hu0 hy0 hu1 hy1 hu2 hy2 hu3 hy3 hu4 hy4 hu5 hy5 hu6 hy6
        have lu : a5 ≤ u5 := by omega
        have ly : y5 ≤ a5 := by omega
        have HH : Hid (true = decide (0 ≤ (5 : Int) ∧ (5 : Int) < 7 ∧ 1 ≤ s ∧ s ≤ at7 u0 u1 u2 u3 u4 u5 u6 5)) := Lib.hid (tt (by refine ⟨by omega, by omega, by omega, ?_⟩; simp [at7]; omega))
        have HN : Hid (false = decide (0 ≤ (5 : Int) ∧ (5 : Int) < 7 ∧ 1 ≤ s ∧ s ≤ at7 y0 y1 y2 y3 y4 y5 y6 5)) := Lib.hid (ff (by rintro ⟨_, _, h1, h2⟩; simp [at7] at h2; omega))
        have ds : decide (1 ≤ s) = true := decide_eq_true (by omega)
        subst xu0
        subst xy0
        subst xu1
        subst xy1
        subst xu2
        subst xy2
        subst xu3
        subst xy3
        subst xu4
        subst xy4
        subst xu6
        subst xy6
        clear xu5 xy5
        go_wp2_with (first | (go_at_call 18; (first | (with_reducible refine (calls_ext (Has_is a0 a1 a2 a3 a4 u5 a6 _ _ true HH.out _)).mono ?_) | (with_reducible refine (calls_to_ext (Has_is a0 a1 a2 a3 a4 u5 a6 _ _ true HH.out _)).mono ?_)); rintro e w1 ⟨rfl, X, rfl⟩; have hX := X.size; (try simp only [World.size_alloc] at hX)) | (go_at_call 18; (first | (with_reducible refine (calls_ext (Has_is a0 a1 a2 a3 a4 y5 a6 _ _ false HN.out _)).mono ?_) | (with_reducible refine (calls_to_ext (Has_is a0 a1 a2 a3 a4 y5 a6 _ _ false HN.out _)).mono ?_)); rintro e w1 ⟨rfl, X, rfl⟩; have hX := X.size; (try simp only [World.size_alloc] at hX)) | (go_at_call 17; (first | (with_reducible refine (calls_ext (Over_is _ _ _ _ _ _ _ _ _ _ _ _ _ _ true (tt (by omega)) _)).mono ?_) | (with_reducible refine (calls_to_ext (Over_is _ _ _ _ _ _ _ _ _ _ _ _ _ _ true (tt (by omega)) _)).mono ?_)); rintro e w1 ⟨rfl, X, rfl⟩; have hX := X.size; (try simp only [World.size_alloc] at hX)) | (go_at_call 19; (first | (with_reducible refine (calls_ext (awake03 _)).mono ?_) | (with_reducible refine (calls_to_ext (awake03 _)).mono ?_)); rintro e w1 ⟨rfl, X, rfl⟩; have hX := X.size; (try simp only [World.size_alloc] at hX)))
        refine wp_loop_rounds 8 ?_
        repeat any_goals (rw [rounds_succ]; go_wp2_with (first | (go_at_call 18; (first | (with_reducible refine (calls_ext (Has_is a0 a1 a2 a3 a4 u5 a6 _ _ true HH.out _)).mono ?_) | (with_reducible refine (calls_to_ext (Has_is a0 a1 a2 a3 a4 u5 a6 _ _ true HH.out _)).mono ?_)); rintro e w1 ⟨rfl, X, rfl⟩; have hX := X.size; (try simp only [World.size_alloc] at hX)) | (go_at_call 18; (first | (with_reducible refine (calls_ext (Has_is a0 a1 a2 a3 a4 y5 a6 _ _ false HN.out _)).mono ?_) | (with_reducible refine (calls_to_ext (Has_is a0 a1 a2 a3 a4 y5 a6 _ _ false HN.out _)).mono ?_)); rintro e w1 ⟨rfl, X, rfl⟩; have hX := X.size; (try simp only [World.size_alloc] at hX)) | (go_at_call 17; (first | (with_reducible refine (calls_ext (Over_is _ _ _ _ _ _ _ _ _ _ _ _ _ _ true (tt (by omega)) _)).mono ?_) | (with_reducible refine (calls_to_ext (Over_is _ _ _ _ _ _ _ _ _ _ _ _ _ _ true (tt (by omega)) _)).mono ?_)); rintro e w1 ⟨rfl, X, rfl⟩; have hX := X.size; (try simp only [World.size_alloc] at hX)) | (go_at_call 19; (first | (with_reducible refine (calls_ext (awake03 _)).mono ?_) | (with_reducible refine (calls_to_ext (awake03 _)).mono ?_)); rintro e w1 ⟨rfl, X, rfl⟩; have hX := X.size; (try simp only [World.size_alloc] at hX))); (try (go_quiet (fail); go_wp2_with (first | (go_at_call 18; (first | (with_reducible refine (calls_ext (Has_is a0 a1 a2 a3 a4 u5 a6 _ _ true HH.out _)).mono ?_) | (with_reducible refine (calls_to_ext (Has_is a0 a1 a2 a3 a4 u5 a6 _ _ true HH.out _)).mono ?_)); rintro e w1 ⟨rfl, X, rfl⟩; have hX := X.size; (try simp only [World.size_alloc] at hX)) | (go_at_call 18; (first | (with_reducible refine (calls_ext (Has_is a0 a1 a2 a3 a4 y5 a6 _ _ false HN.out _)).mono ?_) | (with_reducible refine (calls_to_ext (Has_is a0 a1 a2 a3 a4 y5 a6 _ _ false HN.out _)).mono ?_)); rintro e w1 ⟨rfl, X, rfl⟩; have hX := X.size; (try simp only [World.size_alloc] at hX)) | (go_at_call 17; (first | (with_reducible refine (calls_ext (Over_is _ _ _ _ _ _ _ _ _ _ _ _ _ _ true (tt (by omega)) _)).mono ?_) | (with_reducible refine (calls_to_ext (Over_is _ _ _ _ _ _ _ _ _ _ _ _ _ _ true (tt (by omega)) _)).mono ?_)); rintro e w1 ⟨rfl, X, rfl⟩; have hX := X.size; (try simp only [World.size_alloc] at hX)) | (go_at_call 19; (first | (with_reducible refine (calls_ext (awake03 _)).mono ?_) | (with_reducible refine (calls_to_ext (awake03 _)).mono ?_)); rintro e w1 ⟨rfl, X, rfl⟩; have hX := X.size; (try simp only [World.size_alloc] at hX))))))
        have hbw := HBW.out
        go_ret
        exact ⟨rfl, by (repeat' (first | (with_reducible exact Below.refl _ _) | (with_reducible assumption) | (with_reducible refine Below.setCell ?_ ?_ _) | (with_reducible refine Below.alloc ?_ ?_ _) | (with_reducible refine Below.drew ?_) | (with_reducible refine below_drewN ?_ _) | (with_reducible refine Ext.grown _ ?_ ?_) | (with_reducible exact Nat.le_refl _) | omega | (simp only [World.size_alloc, World.size_setCell, World.size_drew]; omega) | (simp; omega) | (simp; done)))⟩
      · have xu0 : a0 = u0 := by rw [hu0]; exact (if_neg (by omega)).symm
        have xy0 : a0 = y0 := by rw [hy0]; exact (if_neg (by omega)).symm
        have xu1 : a1 = u1 := by rw [hu1]; exact (if_neg (by omega)).symm
        have xy1 : a1 = y1 := by rw [hy1]; exact (if_neg (by omega)).symm
        have xu2 : a2 = u2 := by rw [hu2]; exact (if_neg (by omega)).symm
        have xy2 : a2 = y2 := by rw [hy2]; exact (if_neg (by omega)).symm
        have xu3 : a3 = u3 := by rw [hu3]; exact (if_neg (by omega)).symm
        have xy3 : a3 = y3 := by rw [hy3]; exact (if_neg (by omega)).symm
        have xu4 : a4 = u4 := by rw [hu4]; exact (if_neg (by omega)).symm
        have xy4 : a4 = y4 := by rw [hy4]; exact (if_neg (by omega)).symm
        have xu5 : u5 = max a5 s := by rw [hu5]; exact if_pos rfl
        have xy5 : y5 = a5 := by rw [hy5]; exact if_neg (by omega)
        have xu6 : a6 = u6 := by rw [hu6]; exact (if_neg (by omega)).symm
        have xy6 : a6 = y6 := by rw [hy6]; exact (if_neg (by omega)).symm
        clear hu0 hy0 hu1 hy1 hu2 hy2 hu3 hy3 hu4 hy4 hu5 hy5 hu6 hy6
        have lu : a5 ≤ u5 := by omega
        have ly : y5 ≤ a5 := by omega
        have HH : Hid (false = decide (0 ≤ (5 : Int) ∧ (5 : Int) < 7 ∧ 1 ≤ s ∧ s ≤ at7 u0 u1 u2 u3 u4 u5 u6 5)) := Lib.hid (ff (by omega))
        have HN : Hid (false = decide (0 ≤ (5 : Int) ∧ (5 : Int) < 7 ∧ 1 ≤ s ∧ s ≤ at7 y0 y1 y2 y3 y4 y5 y6 5)) := Lib.hid (ff (by rintro ⟨_, _, h1, h2⟩; simp [at7] at h2; omega))
        have ds : decide (1 ≤ s) = false := decide_eq_false (by omega)
        subst xu0
        subst xy0
        subst xu1
        subst xy1
        subst xu2
        subst xy2
        subst xu3
        subst xy3
        subst xu4
        subst xy4
        subst xu6
        subst xy6
        clear xu5 xy5
        go_wp2_with (first | (go_at_call 18; (first | (with_reducible refine (calls_ext (Has_is a0 a1 a2 a3 a4 u5 a6 _ _ false HH.out _)).mono ?_) | (with_reducible refine (calls_to_ext (Has_is a0 a1 a2 a3 a4 u5 a6 _ _ false HH.out _)).mono ?_)); rintro e w1 ⟨rfl, X, rfl⟩; have hX := X.size; (try simp only [World.size_alloc] at hX)) | (go_at_call 18; (first | (with_reducible refine (calls_ext (Has_is a0 a1 a2 a3 a4 y5 a6 _ _ false HN.out _)).mono ?_) | (with_reducible refine (calls_to_ext (Has_is a0 a1 a2 a3 a4 y5 a6 _ _ false HN.out _)).mono ?_)); rintro e w1 ⟨rfl, X, rfl⟩; have hX := X.size; (try simp only [World.size_alloc] at hX)) | (go_at_call 17; (first | (with_reducible refine (calls_ext (Over_is _ _ _ _ _ _ _ _ _ _ _ _ _ _ true (tt (by omega)) _)).mono ?_) | (with_reducible refine (calls_to_ext (Over_is _ _ _ _ _ _ _ _ _ _ _ _ _ _ true (tt (by omega)) _)).mono ?_)); rintro e w1 ⟨rfl, X, rfl⟩; have hX := X.size; (try simp only [World.size_alloc] at hX)) | (go_at_call 19; (first | (with_reducible refine (calls_ext (awake03 _)).mono ?_) | (with_reducible refine (calls_to_ext (awake03 _)).mono ?_)); rintro e w1 ⟨rfl, X, rfl⟩; have hX := X.size; (try simp only [World.size_alloc] at hX)))
        refine wp_loop_rounds 8 ?_
        repeat any_goals (rw [rounds_succ]; go_wp2_with (first | (go_at_call 18; (first | (with_reducible refine (calls_ext (Has_is a0 a1 a2 a3 a4 u5 a6 _ _ false HH.out _)).mono ?_) | (with_reducible refine (calls_to_ext (Has_is a0 a1 a2 a3 a4 u5 a6 _ _ false HH.out _)).mono ?_)); rintro e w1 ⟨rfl, X, rfl⟩; have hX := X.size; (try simp only [World.size_alloc] at hX)) | (go_at_call 18; (first | (with_reducible refine (calls_ext (Has_is a0 a1 a2 a3 a4 y5 a6 _ _ false HN.out _)).mono ?_) | (with_reducible refine (calls_to_ext (Has_is a0 a1 a2 a3 a4 y5 a6 _ _ false HN.out _)).mono ?_)); rintro e w1 ⟨rfl, X, rfl⟩; have hX := X.size; (try simp only [World.size_alloc] at hX)) | (go_at_call 17; (first | (with_reducible refine (calls_ext (Over_is _ _ _ _ _ _ _ _ _ _ _ _ _ _ true (tt (by omega)) _)).mono ?_) | (with_reducible refine (calls_to_ext (Over_is _ _ _ _ _ _ _ _ _ _ _ _ _ _ true (tt (by omega)) _)).mono ?_)); rintro e w1 ⟨rfl, X, rfl⟩; have hX := X.size; (try simp only [World.size_alloc] at hX)) | (go_at_call 19; (first | (with_reducible refine (calls_ext (awake03 _)).mono ?_) | (with_reducible refine (calls_to_ext (awake03 _)).mono ?_)); rintro e w1 ⟨rfl, X, rfl⟩; have hX := X.size; (try simp only [World.size_alloc] at hX))); (try (go_quiet (fail); go_wp2_with (first | (go_at_call 18; (first | (with_reducible refine (calls_ext (Has_is a0 a1 a2 a3 a4 u5 a6 _ _ false HH.out _)).mono ?_) | (with_reducible refine (calls_to_ext (Has_is a0 a1 a2 a3 a4 u5 a6 _ _ false HH.out _)).mono ?_)); rintro e w1 ⟨rfl, X, rfl⟩; have hX := X.size; (try simp only [World.size_alloc] at hX)) | (go_at_call 18; (first | (with_reducible refine (calls_ext (Has_is a0 a1 a2 a3 a4 y5 a6 _ _ false HN.out _)).mono ?_) | (with_reducible refine (calls_to_ext (Has_is a0 a1 a2 a3 a4 y5 a6 _ _ false HN.out _)).mono ?_)); rintro e w1 ⟨rfl, X, rfl⟩; have hX := X.size; (try simp only [World.size_alloc] at hX)) | (go_at_call 17; (first | (with_reducible refine (calls_ext (Over_is _ _ _ _ _ _ _ _ _ _ _ _ _ _ true (tt (by omega)) _)).mono ?_) | (with_reducible refine (calls_to_ext (Over_is _ _ _ _ _ _ _ _ _ _ _ _ _ _ true (tt (by omega)) _)).mono ?_)); rintro e w1 ⟨rfl, X, rfl⟩; have hX := X.size; (try simp only [World.size_alloc] at hX)) | (go_at_call 19; (first | (with_reducible refine (calls_ext (awake03 _)).mono ?_) | (with_reducible refine (calls_to_ext (awake03 _)).mono ?_)); rintro e w1 ⟨rfl, X, rfl⟩; have hX := X.size; (try simp only [World.size_alloc] at hX))))))
        have hbw := HBW.out
        go_ret
        exact ⟨rfl, by (repeat' (first | (with_reducible exact Below.refl _ _) | (with_reducible assumption) | (with_reducible refine Below.setCell ?_ ?_ _) | (with_reducible refine Below.alloc ?_ ?_ _) | (with_reducible refine Below.drew ?_) | (with_reducible refine below_drewN ?_ _) | (with_reducible refine Ext.grown _ ?_ ?_) | (with_reducible exact Nat.le_refl _) | omega | (simp only [World.size_alloc, World.size_setCell, World.size_drew]; omega) | (simp; omega) | (simp; done)))⟩
    · by_cases hs1 : 1 ≤ s
      · have xu0 : a0 = u0 := by rw [hu0]; exact (if_neg (by omega)).symm
        have xy0 : a0 = y0 := by rw [hy0]; exact (if_neg (by omega)).symm
        have xu1 : a1 = u1 := by rw [hu1]; exact (if_neg (by omega)).symm
        have xy1 : a1 = y1 := by rw [hy1]; exact (if_neg (by omega)).symm
        have xu2 : a2 = u2 := by rw [hu2]; exact (if_neg (by omega)).symm
        have xy2 : a2 = y2 := by rw [hy2]; exact (if_neg (by omega)).symm
        have xu3 : a3 = u3 := by rw [hu3]; exact (if_neg (by omega)).symm
        have xy3 : a3 = y3 := by rw [hy3]; exact (if_neg (by omega)).symm
        have xu4 : a4 = u4 := by rw [hu4]; exact (if_neg (by omega)).symm
        have xy4 : a4 = y4 := by rw [hy4]; exact (if_neg (by omega)).symm
        have xu5 : a5 = u5 := by rw [hu5]; exact (if_neg (by omega)).symm
        have xy5 : a5 = y5 := by rw [hy5]; exact (if_neg (by omega)).symm
        have xu6 : u6 = max a6 s := by rw [hu6]; exact if_pos rfl
        have xy6 : y6 = min a6 (s - 1) := by rw [hy6]; exact if_pos ⟨rfl, by omega⟩
        clear hu0 hy0 hu1 hy1 hu2 hy2 hu3 hy3 hu4 hy4 hu5 hy5 hu6 hy6
        have lu : a6 ≤ u6 := by omega
        have ly : y6 ≤ a6 := by omega
        have HH : Hid (true = decide (0 ≤ (6 : Int) ∧ (6 : Int) < 7 ∧ 1 ≤ s ∧ s ≤ at7 u0 u1 u2 u3 u4 u5 u6 6)) := Lib.hid (tt (by refine ⟨by omega, by omega, by omega, ?_⟩; simp [at7]; omega))
        have HN : Hid (false = decide (0 ≤ (6 : Int) ∧ (6 : Int) < 7 ∧ 1 ≤ s ∧ s ≤ at7 y0 y1 y2 y3 y4 y5 y6 6)) := Lib.hid (ff (by rintro ⟨_, _, h1, h2⟩; simp [at7] at h2; omega))
        have ds : decide (1 ≤ s) = true := decide_eq_true (by omega)
        subst xu0
        subst xy0
        subst xu1
        subst xy1
        subst xu2
        subst xy2
        subst xu3
        subst xy3
        subst xu4
        subst xy4
        subst xu5
        subst xy5
        clear xu6 xy6
        go_wp2_with (first | (go_at_call 18; (first | (with_reducible refine (calls_ext (Has_is a0 a1 a2 a3 a4 a5 u6 _ _ true HH.out _)).mono ?_) | (with_reducible refine (calls_to_ext (Has_is a0 a1 a2 a3 a4 a5 u6 _ _ true HH.out _)).mono ?_)); rintro e w1 ⟨rfl, X, rfl⟩; have hX := X.size; (try simp only [World.size_alloc] at hX)) | (go_at_call 18; (first | (with_reducible refine (calls_ext (Has_is a0 a1 a2 a3 a4 a5 y6 _ _ false HN.out _)).mono ?_) | (with_reducible refine (calls_to_ext (Has_is a0 a1 a2 a3 a4 a5 y6 _ _ false HN.out _)).mono ?_)); rintro e w1 ⟨rfl, X, rfl⟩; have hX := X.size; (try simp only [World.size_alloc] at hX)) | (go_at_call 17; (first | (with_reducible refine (calls_ext (Over_is _ _ _ _ _ _ _ _ _ _ _ _ _ _ true (tt (by omega)) _)).mono ?_) | (with_reducible refine (calls_to_ext (Over_is _ _ _ _ _ _ _ _ _ _ _ _ _ _ true (tt (by omega)) _)).mono ?_)); rintro e w1 ⟨rfl, X, rfl⟩; have hX := X.size; (try simp only [World.size_alloc] at hX)) | (go_at_call 19; (first | (with_reducible refine (calls_ext (awake03 _)).mono ?_) | (with_reducible refine (calls_to_ext (awake03 _)).mono ?_)); rintro e w1 ⟨rfl, X, rfl⟩; have hX := X.size; (try simp only [World.size_alloc] at hX)))
        refine wp_loop_rounds 8 ?_
        repeat any_goals (rw [rounds_succ]; go_wp2_with (first | (go_at_call 18; (first | (with_reducible refine (calls_ext (Has_is a0 a1 a2 a3 a4 a5 u6 _ _ true HH.out _)).mono ?_) | (with_reducible refine (calls_to_ext (Has_is a0 a1 a2 a3 a4 a5 u6 _ _ true HH.out _)).mono ?_)); rintro e w1 ⟨rfl, X, rfl⟩; have hX := X.size; (try simp only [World.size_alloc] at hX)) | (go_at_call 18; (first | (with_reducible refine (calls_ext (Has_is a0 a1 a2 a3 a4 a5 y6 _ _ false HN.out _)).mono ?_) | (with_reducible refine (calls_to_ext (Has_is a0 a1 a2 a3 a4 a5 y6 _ _ false HN.out _)).mono ?_)); rintro e w1 ⟨rfl, X, rfl⟩; have hX := X.size; (try simp only [World.size_alloc] at hX)) | (go_at_call 17; (first | (with_reducible refine (calls_ext (Over_is _ _ _ _ _ _ _ _ _ _ _ _ _ _ true (tt (by omega)) _)).mono ?_) | (with_reducible refine (calls_to_ext (Over_is _ _ _ _ _ _ _ _ _ _ _ _ _ _ true (tt (by omega)) _)).mono ?_)); rintro e w1 ⟨rfl, X, rfl⟩; have hX := X.size; (try simp only [World.size_alloc] at hX)) | (go_at_call 19; (first | (with_reducible refine (calls_ext (awake03 _)).mono ?_) | (with_reducible refine (calls_to_ext (awake03 _)).mono ?_)); rintro e w1 ⟨rfl, X, rfl⟩; have hX := X.size; (try simp only [World.size_alloc] at hX))); (try (go_quiet (fail); go_wp2_with (first | (go_at_call 18; (first | (with_reducible refine (calls_ext (Has_is a0 a1 a2 a3 a4 a5 u6 _ _ true HH.out _)).mono ?_) | (with_reducible refine (calls_to_ext (Has_is a0 a1 a2 a3 a4 a5 u6 _ _ true HH.out _)).mono ?_)); rintro e w1 ⟨rfl, X, rfl⟩; have hX := X.size; (try simp only [World.size_alloc] at hX)) | (go_at_call 18; (first | (with_reducible refine (calls_ext (Has_is a0 a1 a2 a3 a4 a5 y6 _ _ false HN.out _)).mono ?_) | (with_reducible refine (calls_to_ext (Has_is a0 a1 a2 a3 a4 a5 y6 _ _ false HN.out _)).mono ?_)); rintro e w1 ⟨rfl, X, rfl⟩; have hX := X.size; (try simp only [World.size_alloc] at hX)) | (go_at_call 17; (first | (with_reducible refine (calls_ext (Over_is _ _ _ _ _ _ _ _ _ _ _ _ _ _ true (tt (by omega)) _)).mono ?_) | (with_reducible refine (calls_to_ext (Over_is _ _ _ _ _ _ _ _ _ _ _ _ _ _ true (tt (by omega)) _)).mono ?_)); rintro e w1 ⟨rfl, X, rfl⟩; have hX := X.size; (try simp only [World.size_alloc] at hX)) | (go_at_call 19; (first | (with_reducible refine (calls_ext (awake03 _)).mono ?_) | (with_reducible refine (calls_to_ext (awake03 _)).mono ?_)); rintro e w1 ⟨rfl, X, rfl⟩; have hX := X.size; (try simp only [World.size_alloc] at hX))))))
        have hbw := HBW.out
        go_ret
        exact ⟨rfl, by (repeat' (first | (with_reducible exact Below.refl _ _) | (with_reducible assumption) | (with_reducible refine Below.setCell ?_ ?_ _) | (with_reducible refine Below.alloc ?_ ?_ _) | (with_reducible refine Below.drew ?_) | (with_reducible refine below_drewN ?_ _) | (with_reducible refine Ext.grown _ ?_ ?_) | (with_reducible exact Nat.le_refl _) | omega | (simp only [World.size_alloc, World.size_setCell, World.size_drew]; omega) | (simp; omega) | (simp; done)))⟩
      · have xu0 : a0 = u0 := by rw [hu0]; exact (if_neg (by omega)).symm
        have xy0 : a0 = y0 := by rw [hy0]; exact (if_neg (by omega)).symm
        have xu1 : a1 = u1 := by rw [hu1]; exact (if_neg (by omega)).symm
        have xy1 : a1 = y1 := by rw [hy1]; exact (if_neg (by omega)).symm
        have xu2 : a2 = u2 := by rw [hu2]; exact (if_neg (by omega)).symm
        have xy2 : a2 = y2 := by rw [hy2]; exact (if_neg (by omega)).symm
        have xu3 : a3 = u3 := by rw [hu3]; exact (if_neg (by omega)).symm
        have xy3 : a3 = y3 := by rw [hy3]; exact (if_neg (by omega)).symm
        have xu4 : a4 = u4 := by rw [hu4]; exact (if_neg (by omega)).symm
        have xy4 : a4 = y4 := by rw [hy4]; exact (if_neg (by omega)).symm
        have xu5 : a5 = u5 := by rw [hu5]; exact (if_neg (by omega)).symm
        have xy5 : a5 = y5 := by rw [hy5]; exact (if_neg (by omega)).symm
        have xu6 : u6 = max a6 s := by rw [hu6]; exact if_pos rfl
        have xy6 : y6 = a6 := by rw [hy6]; exact if_neg (by omega)
        clear hu0 hy0 hu1 hy1 hu2 hy2 hu3 hy3 hu4 hy4 hu5 hy5 hu6 hy6
        have lu : a6 ≤ u6 := by omega
        have ly : y6 ≤ a6 := by omega
        have HH : Hid (false = decide (0 ≤ (6 : Int) ∧ (6 : Int) < 7 ∧ 1 ≤ s ∧ s ≤ at7 u0 u1 u2 u3 u4 u5 u6 6)) := Lib.hid (ff (by omega))
        have HN : Hid (false = decide (0 ≤ (6 : Int) ∧ (6 : Int) < 7 ∧ 1 ≤ s ∧ s ≤ at7 y0 y1 y2 y3 y4 y5 y6 6)) := Lib.hid (ff (by rintro ⟨_, _, h1, h2⟩; simp [at7] at h2; omega))
        have ds : decide (1 ≤ s) = false := decide_eq_false (by omega)
        subst xu0
        subst xy0
        subst xu1
        subst xy1
        subst xu2
        subst xy2
        subst xu3
        subst xy3
        subst xu4
        subst xy4
        subst xu5
        subst xy5
        clear xu6 xy6
        go_wp2_with (first | (go_at_call 18; (first | (with_reducible refine (calls_ext (Has_is a0 a1 a2 a3 a4 a5 u6 _ _ false HH.out _)).mono ?_) | (with_reducible refine (calls_to_ext (Has_is a0 a1 a2 a3 a4 a5 u6 _ _ false HH.out _)).mono ?_)); rintro e w1 ⟨rfl, X, rfl⟩; have hX := X.size; (try simp only [World.size_alloc] at hX)) | (go_at_call 18; (first | (with_reducible refine (calls_ext (Has_is a0 a1 a2 a3 a4 a5 y6 _ _ false HN.out _)).mono ?_) | (with_reducible refine (calls_to_ext (Has_is a0 a1 a2 a3 a4 a5 y6 _ _ false HN.out _)).mono ?_)); rintro e w1 ⟨rfl, X, rfl⟩; have hX := X.size; (try simp only [World.size_alloc] at hX)) | (go_at_call 17; (first | (with_reducible refine (calls_ext (Over_is _ _ _ _ _ _ _ _ _ _ _ _ _ _ true (tt (by omega)) _)).mono ?_) | (with_reducible refine (calls_to_ext (Over_is _ _ _ _ _ _ _ _ _ _ _ _ _ _ true (tt (by omega)) _)).mono ?_)); rintro e w1 ⟨rfl, X, rfl⟩; have hX := X.size; (try simp only [World.size_alloc] at hX)) | (go_at_call 19; (first | (with_reducible refine (calls_ext (awake03 _)).mono ?_) | (with_reducible refine (calls_to_ext (awake03 _)).mono ?_)); rintro e w1 ⟨rfl, X, rfl⟩; have hX := X.size; (try simp only [World.size_alloc] at hX)))
        refine wp_loop_rounds 8 ?_
        repeat any_goals (rw [rounds_succ]; go_wp2_with (first | (go_at_call 18; (first | (with_reducible refine (calls_ext (Has_is a0 a1 a2 a3 a4 a5 u6 _ _ false HH.out _)).mono ?_) | (with_reducible refine (calls_to_ext (Has_is a0 a1 a2 a3 a4 a5 u6 _ _ false HH.out _)).mono ?_)); rintro e w1 ⟨rfl, X, rfl⟩; have hX := X.size; (try simp only [World.size_alloc] at hX)) | (go_at_call 18; (first | (with_reducible refine (calls_ext (Has_is a0 a1 a2 a3 a4 a5 y6 _ _ false HN.out _)).mono ?_) | (with_reducible refine (calls_to_ext (Has_is a0 a1 a2 a3 a4 a5 y6 _ _ false HN.out _)).mono ?_)); rintro e w1 ⟨rfl, X, rfl⟩; have hX := X.size; (try simp only [World.size_alloc] at hX)) | (go_at_call 17; (first | (with_reducible refine (calls_ext (Over_is _ _ _ _ _ _ _ _ _ _ _ _ _ _ true (tt (by omega)) _)).mono ?_) | (with_reducible refine (calls_to_ext (Over_is _ _ _ _ _ _ _ _ _ _ _ _ _ _ true (tt (by omega)) _)).mono ?_)); rintro e w1 ⟨rfl, X, rfl⟩; have hX := X.size; (try simp only [World.size_alloc] at hX)) | (go_at_call 19; (first | (with_reducible refine (calls_ext (awake03 _)).mono ?_) | (with_reducible refine (calls_to_ext (awake03 _)).mono ?_)); rintro e w1 ⟨rfl, X, rfl⟩; have hX := X.size; (try simp only [World.size_alloc] at hX))); (try (go_quiet (fail); go_wp2_with (first | (go_at_call 18; (first | (with_reducible refine (calls_ext (Has_is a0 a1 a2 a3 a4 a5 u6 _ _ false HH.out _)).mono ?_) | (with_reducible refine (calls_to_ext (Has_is a0 a1 a2 a3 a4 a5 u6 _ _ false HH.out _)).mono ?_)); rintro e w1 ⟨rfl, X, rfl⟩; have hX := X.size; (try simp only [World.size_alloc] at hX)) | (go_at_call 18; (first | (with_reducible refine (calls_ext (Has_is a0 a1 a2 a3 a4 a5 y6 _ _ false HN.out _)).mono ?_) | (with_reducible refine (calls_to_ext (Has_is a0 a1 a2 a3 a4 a5 y6 _ _ false HN.out _)).mono ?_)); rintro e w1 ⟨rfl, X, rfl⟩; have hX := X.size; (try simp only [World.size_alloc] at hX)) | (go_at_call 17; (first | (with_reducible refine (calls_ext (Over_is _ _ _ _ _ _ _ _ _ _ _ _ _ _ true (tt (by omega)) _)).mono ?_) | (with_reducible refine (calls_to_ext (Over_is _ _ _ _ _ _ _ _ _ _ _ _ _ _ true (tt (by omega)) _)).mono ?_)); rintro e w1 ⟨rfl, X, rfl⟩; have hX := X.size; (try simp only [World.size_alloc] at hX)) | (go_at_call 19; (first | (with_reducible refine (calls_ext (awake03 _)).mono ?_) | (with_reducible refine (calls_to_ext (awake03 _)).mono ?_)); rintro e w1 ⟨rfl, X, rfl⟩; have hX := X.size; (try simp only [World.size_alloc] at hX))))))
        have hbw := HBW.out
        go_ret
        exact ⟨rfl, by (repeat' (first | (with_reducible exact Below.refl _ _) | (with_reducible assumption) | (with_reducible refine Below.setCell ?_ ?_ _) | (with_reducible refine Below.alloc ?_ ?_ _) | (with_reducible refine Below.drew ?_) | (with_reducible refine below_drewN ?_ _) | (with_reducible refine Ext.grown _ ?_ ?_) | (with_reducible exact Nat.le_refl _) | omega | (simp only [World.size_alloc, World.size_setCell, World.size_drew]; omega) | (simp; omega) | (simp; done)))⟩
    · by_cases hr0 : 0 ≤ r
      · have d0 : decide (0 ≤ r) = true := decide_eq_true hr0
        have d1 : decide (r ≤ 6) = false := decide_eq_false (by omega)
        have n0 : (0 != r) = true := by simp; omega
        have n1 : (1 != r) = true := by simp; omega
        have n2 : (2 != r) = true := by simp; omega
        have n3 : (3 != r) = true := by simp; omega
        have n4 : (4 != r) = true := by simp; omega
        have n5 : (5 != r) = true := by simp; omega
        have n6 : (6 != r) = true := by simp; omega
        have xu0 : a0 = u0 := by rw [hu0]; exact (if_neg (by omega)).symm
        have xy0 : a0 = y0 := by rw [hy0]; exact (if_neg (by omega)).symm
        have xu1 : a1 = u1 := by rw [hu1]; exact (if_neg (by omega)).symm
        have xy1 : a1 = y1 := by rw [hy1]; exact (if_neg (by omega)).symm
        have xu2 : a2 = u2 := by rw [hu2]; exact (if_neg (by omega)).symm
        have xy2 : a2 = y2 := by rw [hy2]; exact (if_neg (by omega)).symm
        have xu3 : a3 = u3 := by rw [hu3]; exact (if_neg (by omega)).symm
        have xy3 : a3 = y3 := by rw [hy3]; exact (if_neg (by omega)).symm
        have xu4 : a4 = u4 := by rw [hu4]; exact (if_neg (by omega)).symm
        have xy4 : a4 = y4 := by rw [hy4]; exact (if_neg (by omega)).symm
        have xu5 : a5 = u5 := by rw [hu5]; exact (if_neg (by omega)).symm
        have xy5 : a5 = y5 := by rw [hy5]; exact (if_neg (by omega)).symm
        have xu6 : a6 = u6 := by rw [hu6]; exact (if_neg (by omega)).symm
        have xy6 : a6 = y6 := by rw [hy6]; exact (if_neg (by omega)).symm
        clear hu0 hy0 hu1 hy1 hu2 hy2 hu3 hy3 hu4 hy4 hu5 hy5 hu6 hy6
        have HH : Hid (false = decide (0 ≤ r ∧ r < 7 ∧ 1 ≤ s ∧ s ≤ at7 u0 u1 u2 u3 u4 u5 u6 r)) := Lib.hid (ff (by omega))
        have HN : Hid (false = decide (0 ≤ r ∧ r < 7 ∧ 1 ≤ s ∧ s ≤ at7 y0 y1 y2 y3 y4 y5 y6 r)) := Lib.hid (ff (by omega))
        subst xu0
        subst xy0
        subst xu1
        subst xy1
        subst xu2
        subst xy2
        subst xu3
        subst xy3
        subst xu4
        subst xy4
        subst xu5
        subst xy5
        subst xu6
        subst xy6
        go_wp2_with (first | (go_at_call 18; (first | (with_reducible refine (calls_ext (Has_is a0 a1 a2 a3 a4 a5 a6 _ _ false HH.out _)).mono ?_) | (with_reducible refine (calls_to_ext (Has_is a0 a1 a2 a3 a4 a5 a6 _ _ false HH.out _)).mono ?_)); rintro e w1 ⟨rfl, X, rfl⟩; have hX := X.size; (try simp only [World.size_alloc] at hX)) | (go_at_call 18; (first | (with_reducible refine (calls_ext (Has_is a0 a1 a2 a3 a4 a5 a6 _ _ false HN.out _)).mono ?_) | (with_reducible refine (calls_to_ext (Has_is a0 a1 a2 a3 a4 a5 a6 _ _ false HN.out _)).mono ?_)); rintro e w1 ⟨rfl, X, rfl⟩; have hX := X.size; (try simp only [World.size_alloc] at hX)) | (go_at_call 17; (first | (with_reducible refine (calls_ext (Over_is _ _ _ _ _ _ _ _ _ _ _ _ _ _ true (tt (by omega)) _)).mono ?_) | (with_reducible refine (calls_to_ext (Over_is _ _ _ _ _ _ _ _ _ _ _ _ _ _ true (tt (by omega)) _)).mono ?_)); rintro e w1 ⟨rfl, X, rfl⟩; have hX := X.size; (try simp only [World.size_alloc] at hX)) | (go_at_call 19; (first | (with_reducible refine (calls_ext (awake03 _)).mono ?_) | (with_reducible refine (calls_to_ext (awake03 _)).mono ?_)); rintro e w1 ⟨rfl, X, rfl⟩; have hX := X.size; (try simp only [World.size_alloc] at hX)))
        refine wp_loop_rounds 8 ?_
        repeat any_goals (rw [rounds_succ]; go_wp2_with (first | (go_at_call 18; (first | (with_reducible refine (calls_ext (Has_is a0 a1 a2 a3 a4 a5 a6 _ _ false HH.out _)).mono ?_) | (with_reducible refine (calls_to_ext (Has_is a0 a1 a2 a3 a4 a5 a6 _ _ false HH.out _)).mono ?_)); rintro e w1 ⟨rfl, X, rfl⟩; have hX := X.size; (try simp only [World.size_alloc] at hX)) | (go_at_call 18; (first | (with_reducible refine (calls_ext (Has_is a0 a1 a2 a3 a4 a5 a6 _ _ false HN.out _)).mono ?_) | (with_reducible refine (calls_to_ext (Has_is a0 a1 a2 a3 a4 a5 a6 _ _ false HN.out _)).mono ?_)); rintro e w1 ⟨rfl, X, rfl⟩; have hX := X.size; (try simp only [World.size_alloc] at hX)) | (go_at_call 17; (first | (with_reducible refine (calls_ext (Over_is _ _ _ _ _ _ _ _ _ _ _ _ _ _ true (tt (by omega)) _)).mono ?_) | (with_reducible refine (calls_to_ext (Over_is _ _ _ _ _ _ _ _ _ _ _ _ _ _ true (tt (by omega)) _)).mono ?_)); rintro e w1 ⟨rfl, X, rfl⟩; have hX := X.size; (try simp only [World.size_alloc] at hX)) | (go_at_call 19; (first | (with_reducible refine (calls_ext (awake03 _)).mono ?_) | (with_reducible refine (calls_to_ext (awake03 _)).mono ?_)); rintro e w1 ⟨rfl, X, rfl⟩; have hX := X.size; (try simp only [World.size_alloc] at hX))); (try (go_quiet (fail); go_wp2_with (first | (go_at_call 18; (first | (with_reducible refine (calls_ext (Has_is a0 a1 a2 a3 a4 a5 a6 _ _ false HH.out _)).mono ?_) | (with_reducible refine (calls_to_ext (Has_is a0 a1 a2 a3 a4 a5 a6 _ _ false HH.out _)).mono ?_)); rintro e w1 ⟨rfl, X, rfl⟩; have hX := X.size; (try simp only [World.size_alloc] at hX)) | (go_at_call 18; (first | (with_reducible refine (calls_ext (Has_is a0 a1 a2 a3 a4 a5 a6 _ _ false HN.out _)).mono ?_) | (with_reducible refine (calls_to_ext (Has_is a0 a1 a2 a3 a4 a5 a6 _ _ false HN.out _)).mono ?_)); rintro e w1 ⟨rfl, X, rfl⟩; have hX := X.size; (try simp only [World.size_alloc] at hX)) | (go_at_call 17; (first | (with_reducible refine (calls_ext (Over_is _ _ _ _ _ _ _ _ _ _ _ _ _ _ true (tt (by omega)) _)).mono ?_) | (with_reducible refine (calls_to_ext (Over_is _ _ _ _ _ _ _ _ _ _ _ _ _ _ true (tt (by omega)) _)).mono ?_)); rintro e w1 ⟨rfl, X, rfl⟩; have hX := X.size; (try simp only [World.size_alloc] at hX)) | (go_at_call 19; (first | (with_reducible refine (calls_ext (awake03 _)).mono ?_) | (with_reducible refine (calls_to_ext (awake03 _)).mono ?_)); rintro e w1 ⟨rfl, X, rfl⟩; have hX := X.size; (try simp only [World.size_alloc] at hX))))))
        have hbw := HBW.out
        go_ret
        exact ⟨rfl, by (repeat' (first | (with_reducible exact Below.refl _ _) | (with_reducible assumption) | (with_reducible refine Below.setCell ?_ ?_ _) | (with_reducible refine Below.alloc ?_ ?_ _) | (with_reducible refine Below.drew ?_) | (with_reducible refine below_drewN ?_ _) | (with_reducible refine Ext.grown _ ?_ ?_) | (with_reducible exact Nat.le_refl _) | omega | (simp only [World.size_alloc, World.size_setCell, World.size_drew]; omega) | (simp; omega) | (simp; done)))⟩
      · have d0 : decide (0 ≤ r) = false := decide_eq_false hr0
        have n0 : (0 != r) = true := by simp; omega
        have n1 : (1 != r) = true := by simp; omega
        have n2 : (2 != r) = true := by simp; omega
        have n3 : (3 != r) = true := by simp; omega
        have n4 : (4 != r) = true := by simp; omega
        have n5 : (5 != r) = true := by simp; omega
        have n6 : (6 != r) = true := by simp; omega
        have xu0 : a0 = u0 := by rw [hu0]; exact (if_neg (by omega)).symm
        have xy0 : a0 = y0 := by rw [hy0]; exact (if_neg (by omega)).symm
        have xu1 : a1 = u1 := by rw [hu1]; exact (if_neg (by omega)).symm
        have xy1 : a1 = y1 := by rw [hy1]; exact (if_neg (by omega)).symm
        have xu2 : a2 = u2 := by rw [hu2]; exact (if_neg (by omega)).symm
        have xy2 : a2 = y2 := by rw [hy2]; exact (if_neg (by omega)).symm
        have xu3 : a3 = u3 := by rw [hu3]; exact (if_neg (by omega)).symm
        have xy3 : a3 = y3 := by rw [hy3]; exact (if_neg (by omega)).symm
        have xu4 : a4 = u4 := by rw [hu4]; exact (if_neg (by omega)).symm
        have xy4 : a4 = y4 := by rw [hy4]; exact (if_neg (by omega)).symm
        have xu5 : a5 = u5 := by rw [hu5]; exact (if_neg (by omega)).symm
        have xy5 : a5 = y5 := by rw [hy5]; exact (if_neg (by omega)).symm
        have xu6 : a6 = u6 := by rw [hu6]; exact (if_neg (by omega)).symm
        have xy6 : a6 = y6 := by rw [hy6]; exact (if_neg (by omega)).symm
        clear hu0 hy0 hu1 hy1 hu2 hy2 hu3 hy3 hu4 hy4 hu5 hy5 hu6 hy6
        have HH : Hid (false = decide (0 ≤ r ∧ r < 7 ∧ 1 ≤ s ∧ s ≤ at7 u0 u1 u2 u3 u4 u5 u6 r)) := Lib.hid (ff (by omega))
        have HN : Hid (false = decide (0 ≤ r ∧ r < 7 ∧ 1 ≤ s ∧ s ≤ at7 y0 y1 y2 y3 y4 y5 y6 r)) := Lib.hid (ff (by omega))
        subst xu0
        subst xy0
        subst xu1
        subst xy1
        subst xu2
        subst xy2
        subst xu3
        subst xy3
        subst xu4
        subst xy4
        subst xu5
        subst xy5
        subst xu6
        subst xy6
        go_wp2_with (first | (go_at_call 18; (first | (with_reducible refine (calls_ext (Has_is a0 a1 a2 a3 a4 a5 a6 _ _ false HH.out _)).mono ?_) | (with_reducible refine (calls_to_ext (Has_is a0 a1 a2 a3 a4 a5 a6 _ _ false HH.out _)).mono ?_)); rintro e w1 ⟨rfl, X, rfl⟩; have hX := X.size; (try simp only [World.size_alloc] at hX)) | (go_at_call 18; (first | (with_reducible refine (calls_ext (Has_is a0 a1 a2 a3 a4 a5 a6 _ _ false HN.out _)).mono ?_) | (with_reducible refine (calls_to_ext (Has_is a0 a1 a2 a3 a4 a5 a6 _ _ false HN.out _)).mono ?_)); rintro e w1 ⟨rfl, X, rfl⟩; have hX := X.size; (try simp only [World.size_alloc] at hX)) | (go_at_call 17; (first | (with_reducible refine (calls_ext (Over_is _ _ _ _ _ _ _ _ _ _ _ _ _ _ true (tt (by omega)) _)).mono ?_) | (with_reducible refine (calls_to_ext (Over_is _ _ _ _ _ _ _ _ _ _ _ _ _ _ true (tt (by omega)) _)).mono ?_)); rintro e w1 ⟨rfl, X, rfl⟩; have hX := X.size; (try simp only [World.size_alloc] at hX)) | (go_at_call 19; (first | (with_reducible refine (calls_ext (awake03 _)).mono ?_) | (with_reducible refine (calls_to_ext (awake03 _)).mono ?_)); rintro e w1 ⟨rfl, X, rfl⟩; have hX := X.size; (try simp only [World.size_alloc] at hX)))
        refine wp_loop_rounds 8 ?_
        repeat any_goals (rw [rounds_succ]; go_wp2_with (first | (go_at_call 18; (first | (with_reducible refine (calls_ext (Has_is a0 a1 a2 a3 a4 a5 a6 _ _ false HH.out _)).mono ?_) | (with_reducible refine (calls_to_ext (Has_is a0 a1 a2 a3 a4 a5 a6 _ _ false HH.out _)).mono ?_)); rintro e w1 ⟨rfl, X, rfl⟩; have hX := X.size; (try simp only [World.size_alloc] at hX)) | (go_at_call 18; (first | (with_reducible refine (calls_ext (Has_is a0 a1 a2 a3 a4 a5 a6 _ _ false HN.out _)).mono ?_) | (with_reducible refine (calls_to_ext (Has_is a0 a1 a2 a3 a4 a5 a6 _ _ false HN.out _)).mono ?_)); rintro e w1 ⟨rfl, X, rfl⟩; have hX := X.size; (try simp only [World.size_alloc] at hX)) | (go_at_call 17; (first | (with_reducible refine (calls_ext (Over_is _ _ _ _ _ _ _ _ _ _ _ _ _ _ true (tt (by omega)) _)).mono ?_) | (with_reducible refine (calls_to_ext (Over_is _ _ _ _ _ _ _ _ _ _ _ _ _ _ true (tt (by omega)) _)).mono ?_)); rintro e w1 ⟨rfl, X, rfl⟩; have hX := X.size; (try simp only [World.size_alloc] at hX)) | (go_at_call 19; (first | (with_reducible refine (calls_ext (awake03 _)).mono ?_) | (with_reducible refine (calls_to_ext (awake03 _)).mono ?_)); rintro e w1 ⟨rfl, X, rfl⟩; have hX := X.size; (try simp only [World.size_alloc] at hX))); (try (go_quiet (fail); go_wp2_with (first | (go_at_call 18; (first | (with_reducible refine (calls_ext (Has_is a0 a1 a2 a3 a4 a5 a6 _ _ false HH.out _)).mono ?_) | (with_reducible refine (calls_to_ext (Has_is a0 a1 a2 a3 a4 a5 a6 _ _ false HH.out _)).mono ?_)); rintro e w1 ⟨rfl, X, rfl⟩; have hX := X.size; (try simp only [World.size_alloc] at hX)) | (go_at_call 18; (first | (with_reducible refine (calls_ext (Has_is a0 a1 a2 a3 a4 a5 a6 _ _ false HN.out _)).mono ?_) | (with_reducible refine (calls_to_ext (Has_is a0 a1 a2 a3 a4 a5 a6 _ _ false HN.out _)).mono ?_)); rintro e w1 ⟨rfl, X, rfl⟩; have hX := X.size; (try simp only [World.size_alloc] at hX)) | (go_at_call 17; (first | (with_reducible refine (calls_ext (Over_is _ _ _ _ _ _ _ _ _ _ _ _ _ _ true (tt (by omega)) _)).mono ?_) | (with_reducible refine (calls_to_ext (Over_is _ _ _ _ _ _ _ _ _ _ _ _ _ _ true (tt (by omega)) _)).mono ?_)); rintro e w1 ⟨rfl, X, rfl⟩; have hX := X.size; (try simp only [World.size_alloc] at hX)) | (go_at_call 19; (first | (with_reducible refine (calls_ext (awake03 _)).mono ?_) | (with_reducible refine (calls_to_ext (awake03 _)).mono ?_)); rintro e w1 ⟨rfl, X, rfl⟩; have hX := X.size; (try simp only [World.size_alloc] at hX))))))
        have hbw := HBW.out
        go_ret
        exact ⟨rfl, by (repeat' (first | (with_reducible exact Below.refl _ _) | (with_reducible assumption) | (with_reducible refine Below.setCell ?_ ?_ _) | (with_reducible refine Below.alloc ?_ ?_ _) | (with_reducible refine Below.drew ?_) | (with_reducible refine below_drewN ?_ _) | (with_reducible refine Ext.grown _ ?_ ?_) | (with_reducible exact Nat.le_refl _) | omega | (simp only [World.size_alloc, World.size_setCell, World.size_drew]; omega) | (simp; omega) | (simp; done)))⟩
end Go.Proofs.Ythnmccolfckhdaa
