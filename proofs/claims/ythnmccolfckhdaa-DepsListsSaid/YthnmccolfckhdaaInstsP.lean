/- What the list of instances holds: each once, rising, just what is had. -/
import Derived.Test.YthnmccolfckhdaaInsts
import Derived.Test.YthnmccolfckhdaaDepsC
namespace Go.Proofs.Ythnmccolfckhdaa
open Go.RowKit
set_option linter.unusedSimpArgs false
set_option linter.unusedVariables false
attribute [local go_sem] eqDeps max2_int max_two min2_int min_two idxDeps Ext.cell Ext.frozen Ext.cell_set szlt1 szlt2 szlt3 szlt4 szlt5 szlt6
attribute [local simp] szlt1 szlt2 szlt3 szlt4 szlt5 szlt6

theorem mem_part (k j : Nat) (x : Int × Int) : x ∈ part k j ↔ x.1 = (k : Int) ∧ 1 ≤ x.2 ∧ x.2 ≤ (j : Int) := by
  unfold part
  rw [List.mem_map]
  constructor
  · rintro ⟨i, hi, rfl⟩
    rw [List.mem_range] at hi
    exact ⟨rfl, by simp only []; omega, by simp only []; omega⟩
  · rintro ⟨h1, h2, h3⟩
    refine ⟨(x.2 - 1).toNat, by rw [List.mem_range]; omega, ?_⟩
    apply Prod.ext
    · exact h1.symm
    · simp only []; omega
theorem mem_il (f : Nat → Nat) (x : Int × Int) : ∀ k, x ∈ il f k ↔ ∃ i : Nat, i < k ∧ x.1 = (i : Int) ∧ 1 ≤ x.2 ∧ x.2 ≤ (f i : Int)
  | 0 => by simp [il]
  | k + 1 => by
    rw [il_succ, List.mem_append, mem_il f x k, mem_part]
    constructor
    · rintro (⟨i, hi, h⟩ | h)
      · exact ⟨i, by omega, h⟩
      · exact ⟨k, by omega, h⟩
    · rintro ⟨i, hi, h⟩
      by_cases hik : i = k
      · subst hik; exact .inr h
      · exact .inl ⟨i, by omega, h⟩
def ilt (x y : Int × Int) : Prop := x.1 < y.1 ∨ x.1 = y.1 ∧ x.2 < y.2
theorem part_rises (k : Nat) : ∀ j, (part k j).Pairwise ilt
  | 0 => by simp [part]
  | j + 1 => by
    rw [part_succ, List.pairwise_append]
    refine ⟨part_rises k j, by simp, fun x hx y hy => ?_⟩
    rw [mem_part] at hx
    rw [List.mem_singleton] at hy
    subst hy
    exact .inr ⟨hx.1, by simp only []; omega⟩
theorem il_rises (f : Nat → Nat) : ∀ k, (il f k).Pairwise ilt
  | 0 => by simp [il]
  | k + 1 => by
    rw [il_succ, List.pairwise_append]
    refine ⟨il_rises f k, part_rises k (f k), fun x hx y hy => ?_⟩
    obtain ⟨i, hi, h1, _⟩ := (mem_il f x k).1 hx
    rw [mem_part] at hy
    exact .inl (by omega)
theorem il_at (f : Nat → Nat) (k j : Nat) (h : j < (il f k).length) : ∃ i : Nat, i < k ∧ ((il f k).getD j (0, 0)).1 = (i : Int) ∧ 1 ≤ ((il f k).getD j (0, 0)).2 ∧ ((il f k).getD j (0, 0)).2 ≤ (f i : Int) := by
  have e : (il f k).getD j (0, 0) = (il f k)[j] := by simp [List.getD_eq_getElem?_getD, h]
  rw [e]
  exact (mem_il f _ k).1 (List.getElem_mem h)
theorem il_next (f : Nat → Nat) (k j : Nat) (h : j + 1 < (il f k).length) : ilt ((il f k).getD j (0, 0)) ((il f k).getD (j + 1) (0, 0)) := by
  have e : (il f k).getD j (0, 0) = (il f k)[j] := by simp [List.getD_eq_getElem?_getD, (by omega : j < (il f k).length)]
  have e2 : (il f k).getD (j + 1) (0, 0) = (il f k)[j + 1] := by simp [List.getD_eq_getElem?_getD, h]
  rw [e, e2]
  exact List.pairwise_iff_getElem.1 (il_rises f k) j (j + 1) (by omega) h (by omega)
theorem il_len (a0 a1 a2 a3 a4 a5 a6 : Int) (h : 0 ≤ a0 ∧ a0 ≤ 200 ∧ 0 ≤ a1 ∧ a1 ≤ 200 ∧ 0 ≤ a2 ∧ a2 ≤ 200 ∧ 0 ≤ a3 ∧ a3 ≤ 200 ∧ 0 ≤ a4 ∧ a4 ≤ 200 ∧ 0 ≤ a5 ∧ a5 ≤ 200 ∧ 0 ≤ a6 ∧ a6 ≤ 200) : ((il (fD a0 a1 a2 a3 a4 a5 a6) 7).length : Int) = a0 + a1 + a2 + a3 + a4 + a5 + a6 := by
  rw [il_succ, il_succ, il_succ, il_succ, il_succ, il_succ, il_succ]
  have en : (il (fD a0 a1 a2 a3 a4 a5 a6) 0).length = 0 := rfl
  simp only [List.length_append, part_len, en]
  have e0 : fD a0 a1 a2 a3 a4 a5 a6 0 = a0.toNat := rfl
  have e1 : fD a0 a1 a2 a3 a4 a5 a6 1 = a1.toNat := rfl
  have e2 : fD a0 a1 a2 a3 a4 a5 a6 2 = a2.toNat := rfl
  have e3 : fD a0 a1 a2 a3 a4 a5 a6 3 = a3.toNat := rfl
  have e4 : fD a0 a1 a2 a3 a4 a5 a6 4 = a4.toNat := rfl
  have e5 : fD a0 a1 a2 a3 a4 a5 a6 5 = a5.toNat := rfl
  have e6 : fD a0 a1 a2 a3 a4 a5 a6 6 = a6.toNat := rfl
  rw [e0, e1, e2, e3, e4, e5, e6]
  omega
theorem mem_has (a0 a1 a2 a3 a4 a5 a6 r s : Int) (h : 0 ≤ a0 ∧ a0 ≤ 200 ∧ 0 ≤ a1 ∧ a1 ≤ 200 ∧ 0 ≤ a2 ∧ a2 ≤ 200 ∧ 0 ≤ a3 ∧ a3 ≤ 200 ∧ 0 ≤ a4 ∧ a4 ≤ 200 ∧ 0 ≤ a5 ∧ a5 ≤ 200 ∧ 0 ≤ a6 ∧ a6 ≤ 200) : (r, s) ∈ il (fD a0 a1 a2 a3 a4 a5 a6) 7 ↔ (0 ≤ r ∧ r < 7 ∧ 1 ≤ s ∧ s ≤ at7 a0 a1 a2 a3 a4 a5 a6 r) := by
  rw [mem_il]
  constructor
  · rintro ⟨i, hi, h1, h2, h3⟩
    simp only [] at h1 h2 h3
    subst h1
    have := at7_le a0 a1 a2 a3 a4 a5 a6 (i : Int) h
    unfold fD at h3
    exact ⟨by omega, by omega, h2, by omega⟩
  · rintro ⟨h1, h2, h3, h4⟩
    have := at7_le a0 a1 a2 a3 a4 a5 a6 r h
    refine ⟨r.toNat, by omega, by simp only []; omega, h3, ?_⟩
    simp only []
    unfold fD
    rw [Int.toNat_of_nonneg h1]; omega
theorem ilc_at (l : List (Int × Int)) : ∀ j, j < l.length → (ilc l)[j * 2]? = some (.int .i64 (l.getD j (0, 0)).1) ∧ (ilc l)[j * 2 + 1]? = some (.int .i64 (l.getD j (0, 0)).2) := by
  induction l with
  | nil => intro j hj; simp at hj
  | cons x l ih =>
    intro j hj
    have e : ilc (x :: l) = .int .i64 x.1 :: .int .i64 x.2 :: ilc l := rfl
    rw [e]
    cases j with
    | zero => exact ⟨rfl, rfl⟩
    | succ j =>
      have := ih j (by simpa using hj)
      rw [show (j + 1) * 2 = (j * 2 + 1) + 1 by omega]
      exact this
theorem own_cells2 {w : World} {base : Nat} {e : TypeId} {v : Value} {l : List (Int × Int)} (h : w.ownsRow base e 2 v l.length (ilc l)) :
    ∃ A c, v = .slice A l.length c ∧ ∀ j, j < l.length → ∃ g, A = some ⟨g, 0, none⟩ ∧ w.cell? ⟨g, j * 2, none⟩ = some (.int .i64 (l.getD j (0, 0)).1) ∧ w.cell? ⟨g, j * 2 + 1, none⟩ = some (.int .i64 (l.getD j (0, 0)).2) ∧ g < w.heap.size := by
  rcases h.2 with ⟨rfl, h0⟩ | ⟨g, cap, cur, rfl, hg, hh, hn, _, hc, ht⟩
  · exact ⟨none, 0, by rw [h0], fun j hj => by omega⟩
  · refine ⟨_, cap, rfl, fun j hj => ⟨g, rfl, ?_⟩⟩
    have hx := ilc_at l j hj
    have e1 : ∀ i, i < l.length * 2 → cur.toList[i]? = (ilc l)[i]? := fun i hi => by
      have : (cur.toList.take (l.length * 2))[i]? = (ilc l)[i]? := by rw [ht]
      rwa [List.getElem?_take, if_pos hi] at this
    have c1 : w.cell? ⟨g, j * 2, none⟩ = some (.int .i64 (l.getD j (0, 0)).1) := by
      have := (e1 (j * 2) (by omega)).trans hx.1
      simp [World.cell?, hh]; simpa using this
    have c2 : w.cell? ⟨g, j * 2 + 1, none⟩ = some (.int .i64 (l.getD j (0, 0)).2) := by
      have := (e1 (j * 2 + 1) (by omega)).trans hx.2
      simp [World.cell?, hh]; simpa using this
    exact ⟨c1, c2, World.block_lt_of_cell? w ⟨g, j * 2, none⟩ c1⟩
theorem rRight_is (a0 a1 a2 a3 a4 a5 a6 : Int) (x : Bool) (hx : x = decide (0 ≤ a0 ∧ a0 ≤ 1048576 ∧ 0 ≤ a1 ∧ a1 ≤ 1048576 ∧ 0 ≤ a2 ∧ a2 ≤ 1048576 ∧ 0 ≤ a3 ∧ a3 ≤ 1048576 ∧ 0 ≤ a4 ∧ a4 ≤ 1048576 ∧ 0 ≤ a5 ∧ a5 ≤ 1048576 ∧ 0 ≤ a6 ∧ a6 ≤ 1048576)) (w : World) :
    Calls Try.prog 34 #[.agg #[.int .i64 a0, .int .i64 a1, .int .i64 a2, .int .i64 a3, .int .i64 a4, .int .i64 a5, .int .i64 a6]] w fun e w' => e = .returned (.bool x) ∧ Below w.heap.size w w' := by
  subst hx
  exact rRight_any _ _ _ _ _ _ _ w
theorem rHas_is (a0 a1 a2 a3 a4 a5 a6 r s : Int) (x : Bool) (hx : x = decide (0 ≤ r ∧ r < 7 ∧ 1 ≤ s ∧ s ≤ at7 a0 a1 a2 a3 a4 a5 a6 r)) (w : World) :
    Calls Try.prog 35 #[.agg #[.int .i64 a0, .int .i64 a1, .int .i64 a2, .int .i64 a3, .int .i64 a4, .int .i64 a5, .int .i64 a6], .agg #[.int .i64 r, .int .i64 s]] w fun e w' => e = .returned (.bool x) ∧ Below w.heap.size w w' := by
  subst hx
  exact rHas_any _ _ _ _ _ _ _ _ _ w

end Go.Proofs.Ythnmccolfckhdaa
