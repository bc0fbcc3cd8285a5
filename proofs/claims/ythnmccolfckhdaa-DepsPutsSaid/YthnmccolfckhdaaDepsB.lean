/- What Without of package deps, and the functions of its reference, compute. -/
import Derived.Test.YthnmccolfckhdaaDeps
namespace Go.Proofs.Ythnmccolfckhdaa
open Go.RowKit
set_option linter.unusedSimpArgs false
set_option linter.unusedVariables false
attribute [local go_sem] eqDeps max2_int max_two min2_int min_two idxDeps Ext.cell Ext.frozen Ext.cell_set szlt1 szlt2 szlt3 szlt4 szlt5 szlt6

set_option maxHeartbeats 4000000 in
theorem Without_any (a0 a1 a2 a3 a4 a5 a6 r s : Int) (hs2 : s ≤ 9223372036854775807) (v : Value) (hv : v = .agg #[.int .i64 (if r = 0 ∧ 1 ≤ s then min a0 (s - 1) else a0), .int .i64 (if r = 1 ∧ 1 ≤ s then min a1 (s - 1) else a1), .int .i64 (if r = 2 ∧ 1 ≤ s then min a2 (s - 1) else a2), .int .i64 (if r = 3 ∧ 1 ≤ s then min a3 (s - 1) else a3), .int .i64 (if r = 4 ∧ 1 ≤ s then min a4 (s - 1) else a4), .int .i64 (if r = 5 ∧ 1 ≤ s then min a5 (s - 1) else a5), .int .i64 (if r = 6 ∧ 1 ≤ s then min a6 (s - 1) else a6)]) (w : World) :
    Calls Try.prog 40 #[.agg #[.int .i64 a0, .int .i64 a1, .int .i64 a2, .int .i64 a3, .int .i64 a4, .int .i64 a5, .int .i64 a6], .agg #[.int .i64 r, .int .i64 s]] w fun e w' => e = .returned v ∧ Below w.heap.size w w' := by
  have HV := Lib.hid hv
  clear hv
  rcases rep_cases r with rfl | rfl | rfl | rfl | rfl | rfl | rfl | hr
  case' inr.inr.inr.inr.inr.inr.inr =>
    have n0 := show ¬ (r = 0) by omega
    have n1 := show ¬ (r = 1) by omega
    have n2 := show ¬ (r = 2) by omega
    have n3 := show ¬ (r = 3) by omega
    have n4 := show ¬ (r = 4) by omega
    have n5 := show ¬ (r = 5) by omega
    have n6 := show ¬ (r = 6) by omega
    go_enter Try.func40, Try.ntmps40
    go_wp2_with (refine (calls_to_ext (depIs_any _ _ false (by simp; omega) _)).mono ?_; rintro e w1 ⟨rfl, X, rfl⟩; have hX := X.size; simp only [World.size_alloc] at hX)
    exact bodyPost_ret (v := .agg #[.int .i64 a0, .int .i64 a1, .int .i64 a2, .int .i64 a3, .int .i64 a4, .int .i64 a5, .int .i64 a6]) (by simp [results, Try.results40, go_sem]) rfl ⟨by rw [HV.out]; simp [n0, n1, n2, n3, n4, n5, n6], by (repeat' (first | (with_reducible exact Below.refl _ _) | (with_reducible assumption) | (with_reducible refine Below.setCell ?_ ?_ _) | (with_reducible refine Below.alloc ?_ ?_ _) | (with_reducible refine Below.drew ?_) | (with_reducible refine below_drewN ?_ _) | (with_reducible refine Ext.grown _ ?_ ?_) | (with_reducible exact Nat.le_refl _) | omega | (simp only [World.size_alloc, World.size_setCell, World.size_drew]; omega) | (simp; omega) | (simp; done)))⟩

  · by_cases hs : 1 ≤ s
    · have hsb : decide (1 ≤ s) = true := decide_eq_true hs
      go_enter Try.func40, Try.ntmps40
      go_wp2_with (refine (calls_to_ext (depIs_any _ _ true (by simp) _)).mono ?_; rintro e w1 ⟨rfl, X, rfl⟩; have hX := X.size; simp only [World.size_alloc] at hX)
      go_still_tail 11, (by kernel_rfl)
      go_wp2
      exact bodyPost_ret (v := .agg #[.int .i64 (min a0 (s - 1)), .int .i64 a1, .int .i64 a2, .int .i64 a3, .int .i64 a4, .int .i64 a5, .int .i64 a6]) (by simp [results, Try.results40, go_sem]) rfl ⟨by rw [HV.out]; simp [hs] <;> (try omega), by (repeat' (first | (with_reducible exact Below.refl _ _) | (with_reducible assumption) | (with_reducible refine Below.setCell ?_ ?_ _) | (with_reducible refine Below.alloc ?_ ?_ _) | (with_reducible refine Below.drew ?_) | (with_reducible refine below_drewN ?_ _) | (with_reducible refine Ext.grown _ ?_ ?_) | (with_reducible exact Nat.le_refl _) | omega | (simp only [World.size_alloc, World.size_setCell, World.size_drew]; omega) | (simp; omega) | (simp; done)))⟩
    · have hsb : decide (1 ≤ s) = false := decide_eq_false hs
      go_enter Try.func40, Try.ntmps40
      go_wp2_with (refine (calls_to_ext (depIs_any _ _ true (by simp) _)).mono ?_; rintro e w1 ⟨rfl, X, rfl⟩; have hX := X.size; simp only [World.size_alloc] at hX)
      go_wp2
      exact bodyPost_ret (v := .agg #[.int .i64 a0, .int .i64 a1, .int .i64 a2, .int .i64 a3, .int .i64 a4, .int .i64 a5, .int .i64 a6]) (by simp [results, Try.results40, go_sem]) rfl ⟨by rw [HV.out]; simp [hs] <;> (try omega), by (repeat' (first | (with_reducible exact Below.refl _ _) | (with_reducible assumption) | (with_reducible refine Below.setCell ?_ ?_ _) | (with_reducible refine Below.alloc ?_ ?_ _) | (with_reducible refine Below.drew ?_) | (with_reducible refine below_drewN ?_ _) | (with_reducible refine Ext.grown _ ?_ ?_) | (with_reducible exact Nat.le_refl _) | omega | (simp only [World.size_alloc, World.size_setCell, World.size_drew]; omega) | (simp; omega) | (simp; done)))⟩
  · by_cases hs : 1 ≤ s
    · have hsb : decide (1 ≤ s) = true := decide_eq_true hs
      go_enter Try.func40, Try.ntmps40
      go_wp2_with (refine (calls_to_ext (depIs_any _ _ true (by simp) _)).mono ?_; rintro e w1 ⟨rfl, X, rfl⟩; have hX := X.size; simp only [World.size_alloc] at hX)
      go_still_tail 11, (by kernel_rfl)
      go_wp2
      exact bodyPost_ret (v := .agg #[.int .i64 a0, .int .i64 (min a1 (s - 1)), .int .i64 a2, .int .i64 a3, .int .i64 a4, .int .i64 a5, .int .i64 a6]) (by simp [results, Try.results40, go_sem]) rfl ⟨by rw [HV.out]; simp [hs] <;> (try omega), by (repeat' (first | (with_reducible exact Below.refl _ _) | (with_reducible assumption) | (with_reducible refine Below.setCell ?_ ?_ _) | (with_reducible refine Below.alloc ?_ ?_ _) | (with_reducible refine Below.drew ?_) | (with_reducible refine below_drewN ?_ _) | (with_reducible refine Ext.grown _ ?_ ?_) | (with_reducible exact Nat.le_refl _) | omega | (simp only [World.size_alloc, World.size_setCell, World.size_drew]; omega) | (simp; omega) | (simp; done)))⟩
    · have hsb : decide (1 ≤ s) = false := decide_eq_false hs
      go_enter Try.func40, Try.ntmps40
      go_wp2_with (refine (calls_to_ext (depIs_any _ _ true (by simp) _)).mono ?_; rintro e w1 ⟨rfl, X, rfl⟩; have hX := X.size; simp only [World.size_alloc] at hX)
      go_wp2
      exact bodyPost_ret (v := .agg #[.int .i64 a0, .int .i64 a1, .int .i64 a2, .int .i64 a3, .int .i64 a4, .int .i64 a5, .int .i64 a6]) (by simp [results, Try.results40, go_sem]) rfl ⟨by rw [HV.out]; simp [hs] <;> (try omega), by (repeat' (first | (with_reducible exact Below.refl _ _) | (with_reducible assumption) | (with_reducible refine Below.setCell ?_ ?_ _) | (with_reducible refine Below.alloc ?_ ?_ _) | (with_reducible refine Below.drew ?_) | (with_reducible refine below_drewN ?_ _) | (with_reducible refine Ext.grown _ ?_ ?_) | (with_reducible exact Nat.le_refl _) | omega | (simp only [World.size_alloc, World.size_setCell, World.size_drew]; omega) | (simp; omega) | (simp; done)))⟩
  · by_cases hs : 1 ≤ s
    · have hsb : decide (1 ≤ s) = true := decide_eq_true hs
      go_enter Try.func40, Try.ntmps40
      go_wp2_with (refine (calls_to_ext (depIs_any _ _ true (by simp) _)).mono ?_; rintro e w1 ⟨rfl, X, rfl⟩; have hX := X.size; simp only [World.size_alloc] at hX)
      go_still_tail 11, (by kernel_rfl)
      go_wp2
      exact bodyPost_ret (v := .agg #[.int .i64 a0, .int .i64 a1, .int .i64 (min a2 (s - 1)), .int .i64 a3, .int .i64 a4, .int .i64 a5, .int .i64 a6]) (by simp [results, Try.results40, go_sem]) rfl ⟨by rw [HV.out]; simp [hs] <;> (try omega), by (repeat' (first | (with_reducible exact Below.refl _ _) | (with_reducible assumption) | (with_reducible refine Below.setCell ?_ ?_ _) | (with_reducible refine Below.alloc ?_ ?_ _) | (with_reducible refine Below.drew ?_) | (with_reducible refine below_drewN ?_ _) | (with_reducible refine Ext.grown _ ?_ ?_) | (with_reducible exact Nat.le_refl _) | omega | (simp only [World.size_alloc, World.size_setCell, World.size_drew]; omega) | (simp; omega) | (simp; done)))⟩
    · have hsb : decide (1 ≤ s) = false := decide_eq_false hs
      go_enter Try.func40, Try.ntmps40
      go_wp2_with (refine (calls_to_ext (depIs_any _ _ true (by simp) _)).mono ?_; rintro e w1 ⟨rfl, X, rfl⟩; have hX := X.size; simp only [World.size_alloc] at hX)
      go_wp2
      exact bodyPost_ret (v := .agg #[.int .i64 a0, .int .i64 a1, .int .i64 a2, .int .i64 a3, .int .i64 a4, .int .i64 a5, .int .i64 a6]) (by simp [results, Try.results40, go_sem]) rfl ⟨by rw [HV.out]; simp [hs] <;> (try omega), by (repeat' (first | (with_reducible exact Below.refl _ _) | (with_reducible assumption) | (with_reducible refine Below.setCell ?_ ?_ _) | (with_reducible refine Below.alloc ?_ ?_ _) | (with_reducible refine Below.drew ?_) | (with_reducible refine below_drewN ?_ _) | (with_reducible refine Ext.grown _ ?_ ?_) | (with_reducible exact Nat.le_refl _) | omega | (simp only [World.size_alloc, World.size_setCell, World.size_drew]; omega) | (simp; omega) | (simp; done)))⟩
  · by_cases hs : 1 ≤ s
    · have hsb : decide (1 ≤ s) = true := decide_eq_true hs
      go_enter Try.func40, Try.ntmps40
      go_wp2_with (refine (calls_to_ext (depIs_any _ _ true (by simp) _)).mono ?_; rintro e w1 ⟨rfl, X, rfl⟩; have hX := X.size; simp only [World.size_alloc] at hX)
      go_still_tail 11, (by kernel_rfl)
      go_wp2
      exact bodyPost_ret (v := .agg #[.int .i64 a0, .int .i64 a1, .int .i64 a2, .int .i64 (min a3 (s - 1)), .int .i64 a4, .int .i64 a5, .int .i64 a6]) (by simp [results, Try.results40, go_sem]) rfl ⟨by rw [HV.out]; simp [hs] <;> (try omega), by (repeat' (first | (with_reducible exact Below.refl _ _) | (with_reducible assumption) | (with_reducible refine Below.setCell ?_ ?_ _) | (with_reducible refine Below.alloc ?_ ?_ _) | (with_reducible refine Below.drew ?_) | (with_reducible refine below_drewN ?_ _) | (with_reducible refine Ext.grown _ ?_ ?_) | (with_reducible exact Nat.le_refl _) | omega | (simp only [World.size_alloc, World.size_setCell, World.size_drew]; omega) | (simp; omega) | (simp; done)))⟩
    · have hsb : decide (1 ≤ s) = false := decide_eq_false hs
      go_enter Try.func40, Try.ntmps40
      go_wp2_with (refine (calls_to_ext (depIs_any _ _ true (by simp) _)).mono ?_; rintro e w1 ⟨rfl, X, rfl⟩; have hX := X.size; simp only [World.size_alloc] at hX)
      go_wp2
      exact bodyPost_ret (v := .agg #[.int .i64 a0, .int .i64 a1, .int .i64 a2, .int .i64 a3, .int .i64 a4, .int .i64 a5, .int .i64 a6]) (by simp [results, Try.results40, go_sem]) rfl ⟨by rw [HV.out]; simp [hs] <;> (try omega), by (repeat' (first | (with_reducible exact Below.refl _ _) | (with_reducible assumption) | (with_reducible refine Below.setCell ?_ ?_ _) | (with_reducible refine Below.alloc ?_ ?_ _) | (with_reducible refine Below.drew ?_) | (with_reducible refine below_drewN ?_ _) | (with_reducible refine Ext.grown _ ?_ ?_) | (with_reducible exact Nat.le_refl _) | omega | (simp only [World.size_alloc, World.size_setCell, World.size_drew]; omega) | (simp; omega) | (simp; done)))⟩
  · by_cases hs : 1 ≤ s
    · have hsb : decide (1 ≤ s) = true := decide_eq_true hs
      go_enter Try.func40, Try.ntmps40
      go_wp2_with (refine (calls_to_ext (depIs_any _ _ true (by simp) _)).mono ?_; rintro e w1 ⟨rfl, X, rfl⟩; have hX := X.size; simp only [World.size_alloc] at hX)
      go_still_tail 11, (by kernel_rfl)
      go_wp2
      exact bodyPost_ret (v := .agg #[.int .i64 a0, .int .i64 a1, .int .i64 a2, .int .i64 a3, .int .i64 (min a4 (s - 1)), .int .i64 a5, .int .i64 a6]) (by simp [results, Try.results40, go_sem]) rfl ⟨by rw [HV.out]; simp [hs] <;> (try omega), by (repeat' (first | (with_reducible exact Below.refl _ _) | (with_reducible assumption) | (with_reducible refine Below.setCell ?_ ?_ _) | (with_reducible refine Below.alloc ?_ ?_ _) | (with_reducible refine Below.drew ?_) | (with_reducible refine below_drewN ?_ _) | (with_reducible refine Ext.grown _ ?_ ?_) | (with_reducible exact Nat.le_refl _) | omega | (simp only [World.size_alloc, World.size_setCell, World.size_drew]; omega) | (simp; omega) | (simp; done)))⟩
    · have hsb : decide (1 ≤ s) = false := decide_eq_false hs
      go_enter Try.func40, Try.ntmps40
      go_wp2_with (refine (calls_to_ext (depIs_any _ _ true (by simp) _)).mono ?_; rintro e w1 ⟨rfl, X, rfl⟩; have hX := X.size; simp only [World.size_alloc] at hX)
      go_wp2
      exact bodyPost_ret (v := .agg #[.int .i64 a0, .int .i64 a1, .int .i64 a2, .int .i64 a3, .int .i64 a4, .int .i64 a5, .int .i64 a6]) (by simp [results, Try.results40, go_sem]) rfl ⟨by rw [HV.out]; simp [hs] <;> (try omega), by (repeat' (first | (with_reducible exact Below.refl _ _) | (with_reducible assumption) | (with_reducible refine Below.setCell ?_ ?_ _) | (with_reducible refine Below.alloc ?_ ?_ _) | (with_reducible refine Below.drew ?_) | (with_reducible refine below_drewN ?_ _) | (with_reducible refine Ext.grown _ ?_ ?_) | (with_reducible exact Nat.le_refl _) | omega | (simp only [World.size_alloc, World.size_setCell, World.size_drew]; omega) | (simp; omega) | (simp; done)))⟩
  · by_cases hs : 1 ≤ s
    · have hsb : decide (1 ≤ s) = true := decide_eq_true hs
      go_enter Try.func40, Try.ntmps40
      go_wp2_with (refine (calls_to_ext (depIs_any _ _ true (by simp) _)).mono ?_; rintro e w1 ⟨rfl, X, rfl⟩; have hX := X.size; simp only [World.size_alloc] at hX)
      go_still_tail 11, (by kernel_rfl)
      go_wp2
      exact bodyPost_ret (v := .agg #[.int .i64 a0, .int .i64 a1, .int .i64 a2, .int .i64 a3, .int .i64 a4, .int .i64 (min a5 (s - 1)), .int .i64 a6]) (by simp [results, Try.results40, go_sem]) rfl ⟨by rw [HV.out]; simp [hs] <;> (try omega), by (repeat' (first | (with_reducible exact Below.refl _ _) | (with_reducible assumption) | (with_reducible refine Below.setCell ?_ ?_ _) | (with_reducible refine Below.alloc ?_ ?_ _) | (with_reducible refine Below.drew ?_) | (with_reducible refine below_drewN ?_ _) | (with_reducible refine Ext.grown _ ?_ ?_) | (with_reducible exact Nat.le_refl _) | omega | (simp only [World.size_alloc, World.size_setCell, World.size_drew]; omega) | (simp; omega) | (simp; done)))⟩
    · have hsb : decide (1 ≤ s) = false := decide_eq_false hs
      go_enter Try.func40, Try.ntmps40
      go_wp2_with (refine (calls_to_ext (depIs_any _ _ true (by simp) _)).mono ?_; rintro e w1 ⟨rfl, X, rfl⟩; have hX := X.size; simp only [World.size_alloc] at hX)
      go_wp2
      exact bodyPost_ret (v := .agg #[.int .i64 a0, .int .i64 a1, .int .i64 a2, .int .i64 a3, .int .i64 a4, .int .i64 a5, .int .i64 a6]) (by simp [results, Try.results40, go_sem]) rfl ⟨by rw [HV.out]; simp [hs] <;> (try omega), by (repeat' (first | (with_reducible exact Below.refl _ _) | (with_reducible assumption) | (with_reducible refine Below.setCell ?_ ?_ _) | (with_reducible refine Below.alloc ?_ ?_ _) | (with_reducible refine Below.drew ?_) | (with_reducible refine below_drewN ?_ _) | (with_reducible refine Ext.grown _ ?_ ?_) | (with_reducible exact Nat.le_refl _) | omega | (simp only [World.size_alloc, World.size_setCell, World.size_drew]; omega) | (simp; omega) | (simp; done)))⟩
  · by_cases hs : 1 ≤ s
    · have hsb : decide (1 ≤ s) = true := decide_eq_true hs
      go_enter Try.func40, Try.ntmps40
      go_wp2_with (refine (calls_to_ext (depIs_any _ _ true (by simp) _)).mono ?_; rintro e w1 ⟨rfl, X, rfl⟩; have hX := X.size; simp only [World.size_alloc] at hX)
      go_still_tail 11, (by kernel_rfl)
      go_wp2
      exact bodyPost_ret (v := .agg #[.int .i64 a0, .int .i64 a1, .int .i64 a2, .int .i64 a3, .int .i64 a4, .int .i64 a5, .int .i64 (min a6 (s - 1))]) (by simp [results, Try.results40, go_sem]) rfl ⟨by rw [HV.out]; simp [hs] <;> (try omega), by (repeat' (first | (with_reducible exact Below.refl _ _) | (with_reducible assumption) | (with_reducible refine Below.setCell ?_ ?_ _) | (with_reducible refine Below.alloc ?_ ?_ _) | (with_reducible refine Below.drew ?_) | (with_reducible refine below_drewN ?_ _) | (with_reducible refine Ext.grown _ ?_ ?_) | (with_reducible exact Nat.le_refl _) | omega | (simp only [World.size_alloc, World.size_setCell, World.size_drew]; omega) | (simp; omega) | (simp; done)))⟩
    · have hsb : decide (1 ≤ s) = false := decide_eq_false hs
      go_enter Try.func40, Try.ntmps40
      go_wp2_with (refine (calls_to_ext (depIs_any _ _ true (by simp) _)).mono ?_; rintro e w1 ⟨rfl, X, rfl⟩; have hX := X.size; simp only [World.size_alloc] at hX)
      go_wp2
      exact bodyPost_ret (v := .agg #[.int .i64 a0, .int .i64 a1, .int .i64 a2, .int .i64 a3, .int .i64 a4, .int .i64 a5, .int .i64 a6]) (by simp [results, Try.results40, go_sem]) rfl ⟨by rw [HV.out]; simp [hs] <;> (try omega), by (repeat' (first | (with_reducible exact Below.refl _ _) | (with_reducible assumption) | (with_reducible refine Below.setCell ?_ ?_ _) | (with_reducible refine Below.alloc ?_ ?_ _) | (with_reducible refine Below.drew ?_) | (with_reducible refine below_drewN ?_ _) | (with_reducible refine Ext.grown _ ?_ ?_) | (with_reducible exact Nat.le_refl _) | omega | (simp only [World.size_alloc, World.size_setCell, World.size_drew]; omega) | (simp; omega) | (simp; done)))⟩
end Go.Proofs.Ythnmccolfckhdaa
