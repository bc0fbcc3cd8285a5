/- What the functions of package deps, and of its reference, compute. -/
import Derived.Test.YthnmccolfckhdaaBase
import Derived.StillTailTactics
namespace Go.Proofs.Ythnmccolfckhdaa
open Go.RowKit
set_option linter.unusedSimpArgs false
set_option linter.unusedVariables false
theorem idxDeps (w : World) (cs : Array Value) (i : Int) (h0 : 0 ≤ i) (h1 : i < 7) (hc : cs.size = 7) : (Instr.index 23 (.agg cs) (.int .i64 i)).run Try.prog w = .ok (cs.getD i.toNat undef) w :=
  run_index_arr 23 3 7 .i64 .i64 Try.underlying23 Try.underlying3 (by kernel_rfl) w cs i h0 h1 hc
theorem eqDeps (w : World) (x0 x1 x2 x3 x4 x5 x6 y0 y1 y2 y3 y4 y5 y6 : Int) :
    (Op.equalIn 10000 23 (.agg #[.int .i64 x0, .int .i64 x1, .int .i64 x2, .int .i64 x3, .int .i64 x4, .int .i64 x5, .int .i64 x6]) (.agg #[.int .i64 y0, .int .i64 y1, .int .i64 y2, .int .i64 y3, .int .i64 y4, .int .i64 y5, .int .i64 y6])).run Try.prog w =
      .ok (decide (x0 = y0 ∧ x1 = y1 ∧ x2 = y2 ∧ x3 = y3 ∧ x4 = y4 ∧ x5 = y5 ∧ x6 = y6)) w := by
  rw [run_equalIn_arr7 w 9998 23 3 .i64 .i64 Try.underlying23 Try.underlying3 (by kernel_rfl)]
  congr 1
  rw [Bool.eq_iff_iff]
  simp
attribute [local go_sem] eqDeps max2_int max_two min2_int min_two idxDeps Ext.cell Ext.frozen Ext.cell_set szlt1 szlt2 szlt3 szlt4 szlt5 szlt6
def at7 (a0 a1 a2 a3 a4 a5 a6 r : Int) : Int := if r = 0 then a0 else if r = 1 then a1 else if r = 2 then a2 else if r = 3 then a3 else if r = 4 then a4 else if r = 5 then a5 else a6
theorem rep_cases (r : Int) : r = 0 ∨ r = 1 ∨ r = 2 ∨ r = 3 ∨ r = 4 ∨ r = 5 ∨ r = 6 ∨ ¬ (0 ≤ r ∧ r < 7) := by omega

set_option maxHeartbeats 400000 in
theorem Join_any (a0 a1 a2 a3 a4 a5 a6 b0 b1 b2 b3 b4 b5 b6 : Int) (w : World) :
    Calls Try.prog 16 #[.agg #[.int .i64 a0, .int .i64 a1, .int .i64 a2, .int .i64 a3, .int .i64 a4, .int .i64 a5, .int .i64 a6], .agg #[.int .i64 b0, .int .i64 b1, .int .i64 b2, .int .i64 b3, .int .i64 b4, .int .i64 b5, .int .i64 b6]] w fun e w' => e = .returned (.agg #[.int .i64 (max a0 b0), .int .i64 (max a1 b1), .int .i64 (max a2 b2), .int .i64 (max a3 b3), .int .i64 (max a4 b4), .int .i64 (max a5 b5), .int .i64 (max a6 b6)]) ∧ Below w.heap.size w w' := by
  go_enter Try.func16, Try.ntmps16
  go_wp2
  go_rounds 8
  exact bodyPost_ret (v := .agg #[.int .i64 (max a0 b0), .int .i64 (max a1 b1), .int .i64 (max a2 b2), .int .i64 (max a3 b3), .int .i64 (max a4 b4), .int .i64 (max a5 b5), .int .i64 (max a6 b6)]) (by simp [results, Try.results16, go_sem]) rfl ⟨rfl, by go_grown⟩

set_option maxHeartbeats 400000 in
theorem Over_any (a0 a1 a2 a3 a4 a5 a6 b0 b1 b2 b3 b4 b5 b6 : Int) (w : World) :
    Calls Try.prog 17 #[.agg #[.int .i64 a0, .int .i64 a1, .int .i64 a2, .int .i64 a3, .int .i64 a4, .int .i64 a5, .int .i64 a6], .agg #[.int .i64 b0, .int .i64 b1, .int .i64 b2, .int .i64 b3, .int .i64 b4, .int .i64 b5, .int .i64 b6]] w fun e w' => e = .returned (.bool (decide (b0 ≤ a0 ∧ b1 ≤ a1 ∧ b2 ≤ a2 ∧ b3 ≤ a3 ∧ b4 ≤ a4 ∧ b5 ≤ a5 ∧ b6 ≤ a6))) ∧ Below w.heap.size w w' := by
  go_enter Try.func17, Try.ntmps17
  go_wp2
  refine wp_region_ext (by kernel_rfl) (by kernel_rfl) ?_
  repeat (go_big_quiet_step (exact calls_ext (Join_any _ _ _ _ _ _ _ _ _ _ _ _ _ _ _)))
  refine wpQuiet_nil ?_
  rintro w' ⟨X, rfl⟩
  go_wp2
  go_ret
  exact ⟨ret_bool (by rw [Bool.eq_iff_iff]; simp; omega), by
    exact ((((Below.refl _ _).alloc (Nat.le_refl _) _).alloc (by simp) _).trans (X.below.mono (by simp; omega)))⟩

set_option maxHeartbeats 1000000 in
theorem Right_any (a0 a1 a2 a3 a4 a5 a6 : Int) (w : World) :
    Calls Try.prog 33 #[.agg #[.int .i64 a0, .int .i64 a1, .int .i64 a2, .int .i64 a3, .int .i64 a4, .int .i64 a5, .int .i64 a6]] w fun e w' => e = .returned (.bool (decide (0 ≤ a0 ∧ a0 ≤ 1048576 ∧ 0 ≤ a1 ∧ a1 ≤ 1048576 ∧ 0 ≤ a2 ∧ a2 ≤ 1048576 ∧ 0 ≤ a3 ∧ a3 ≤ 1048576 ∧ 0 ≤ a4 ∧ a4 ≤ 1048576 ∧ 0 ≤ a5 ∧ a5 ≤ 1048576 ∧ 0 ≤ a6 ∧ a6 ≤ 1048576))) ∧ Below w.heap.size w w' := by
  go_enter Try.func33, Try.ntmps33
  go_wp2
  go_rounds 8
  all_goals
    go_ret
    exact ⟨ret_bool (by rw [Bool.eq_iff_iff]; simp; omega), by go_grown⟩

set_option maxHeartbeats 400000 in
theorem depIs_any (r s : Int) (b : Bool) (hb : b = decide (0 ≤ r ∧ r < 7)) (w : World) :
    Calls Try.prog 51 #[.agg #[.int .i64 r, .int .i64 s]] w fun e w' => e = .returned (.bool b) ∧ Below w.heap.size w w' := by
  have H := Lib.hid hb
  clear hb
  go_enter Try.func51, Try.ntmps51
  go_wp2
  all_goals
    go_ret
    exact ⟨ret_bool (by rw [H.out, Bool.eq_iff_iff]; simp; omega), by go_grown⟩

set_option maxHeartbeats 4000000 in
theorem Has_any (a0 a1 a2 a3 a4 a5 a6 r s : Int) (w : World) :
    Calls Try.prog 18 #[.agg #[.int .i64 a0, .int .i64 a1, .int .i64 a2, .int .i64 a3, .int .i64 a4, .int .i64 a5, .int .i64 a6], .agg #[.int .i64 r, .int .i64 s]] w fun e w' => e = .returned (.bool (decide (0 ≤ r ∧ r < 7 ∧ 1 ≤ s ∧ s ≤ at7 a0 a1 a2 a3 a4 a5 a6 r))) ∧ Below w.heap.size w w' := by
  rcases rep_cases r with rfl | rfl | rfl | rfl | rfl | rfl | rfl | hr
  case' inr.inr.inr.inr.inr.inr.inr =>
    go_enter Try.func18, Try.ntmps18
    go_wp2
    refine wp_region_ext (by kernel_rfl) (by kernel_rfl) ?_
    repeat (go_big_quiet_step (exact calls_ext (depIs_any _ _ false (by simp; omega) _)))
    refine wpQuiet_nil ?_
    rintro w' ⟨X, rfl⟩
    go_wp2
    go_ret
    exact ⟨ret_bool (by simp; omega), by
      exact ((((Below.refl _ _).alloc (Nat.le_refl _) _).alloc (by simp) _).trans (X.below.mono (by simp; omega)))⟩
  all_goals
    by_cases hs : 1 ≤ s
    all_goals
      have hsb := hs
      first
        | replace hsb : decide (1 ≤ s) = true := decide_eq_true hs
        | replace hsb : decide (1 ≤ s) = false := decide_eq_false hs
      go_enter Try.func18, Try.ntmps18
      go_wp2
      refine wp_region_ext (by kernel_rfl) (by kernel_rfl) ?_
      repeat (go_big_quiet_step (exact calls_ext (depIs_any _ _ true (by simp) _)))
      refine wpQuiet_nil ?_
      rintro w' ⟨X, rfl⟩
      go_wp2
      go_ret
      exact ⟨ret_bool (by rw [Bool.eq_iff_iff]; simp [at7]; try omega), by
        exact ((((Below.refl _ _).alloc (Nat.le_refl _) _).alloc (by simp) _).trans (X.below.mono (by simp; omega)))⟩

set_option maxHeartbeats 4000000 in
theorem With_any (a0 a1 a2 a3 a4 a5 a6 r s : Int) (v : Value) (hv : v = .agg #[.int .i64 (if r = 0 then max a0 s else a0), .int .i64 (if r = 1 then max a1 s else a1), .int .i64 (if r = 2 then max a2 s else a2), .int .i64 (if r = 3 then max a3 s else a3), .int .i64 (if r = 4 then max a4 s else a4), .int .i64 (if r = 5 then max a5 s else a5), .int .i64 (if r = 6 then max a6 s else a6)]) (w : World) :
    Calls Try.prog 38 #[.agg #[.int .i64 a0, .int .i64 a1, .int .i64 a2, .int .i64 a3, .int .i64 a4, .int .i64 a5, .int .i64 a6], .agg #[.int .i64 r, .int .i64 s]] w fun e w' => e = .returned v ∧ Below w.heap.size w w' := by
  have HV := Lib.hid hv
  clear hv
  rcases rep_cases r with rfl | rfl | rfl | rfl | rfl | rfl | rfl | hr
  case' inr.inr.inr.inr.inr.inr.inr =>
    have n0 := show ¬ (r = 0) by omega
    have n1 := show ¬ (r = 1) by omega
    have n2 := show ¬ (r = 2) by omega
    have n3 := show ¬ (r = 3) by omega
    have n4 := show ¬ (r = 4) by omega
    have n5 := show ¬ (r = 5) by omega
    have n6 := show ¬ (r = 6) by omega
    go_enter Try.func38, Try.ntmps38
    go_wp2_with (refine (calls_to_ext (depIs_any _ _ false (by simp; omega) _)).mono ?_; rintro e w1 ⟨rfl, X, rfl⟩; have hX := X.size; simp only [World.size_alloc] at hX)
    exact bodyPost_ret (v := .agg #[.int .i64 a0, .int .i64 a1, .int .i64 a2, .int .i64 a3, .int .i64 a4, .int .i64 a5, .int .i64 a6]) (by simp [results, Try.results38, go_sem]) rfl ⟨by rw [HV.out]; simp [n0, n1, n2, n3, n4, n5, n6], by (repeat' (first | (with_reducible exact Below.refl _ _) | (with_reducible assumption) | (with_reducible refine Below.setCell ?_ ?_ _) | (with_reducible refine Below.alloc ?_ ?_ _) | (with_reducible refine Below.drew ?_) | (with_reducible refine below_drewN ?_ _) | (with_reducible refine Ext.grown _ ?_ ?_) | (with_reducible exact Nat.le_refl _) | omega | (simp only [World.size_alloc, World.size_setCell, World.size_drew]; omega) | (simp; omega) | (simp; done)))⟩

  · go_enter Try.func38, Try.ntmps38
    go_wp2_with (refine (calls_to_ext (depIs_any _ _ true (by simp) _)).mono ?_; rintro e w1 ⟨rfl, X, rfl⟩; have hX := X.size; simp only [World.size_alloc] at hX)
    go_still_tail 10, (by kernel_rfl)
    go_wp2
    exact bodyPost_ret (v := .agg #[.int .i64 (max a0 s), .int .i64 a1, .int .i64 a2, .int .i64 a3, .int .i64 a4, .int .i64 a5, .int .i64 a6]) (by simp [results, Try.results38, go_sem]) rfl ⟨by rw [HV.out]; simp <;> (try omega), by (repeat' (first | (with_reducible exact Below.refl _ _) | (with_reducible assumption) | (with_reducible refine Below.setCell ?_ ?_ _) | (with_reducible refine Below.alloc ?_ ?_ _) | (with_reducible refine Below.drew ?_) | (with_reducible refine below_drewN ?_ _) | (with_reducible refine Ext.grown _ ?_ ?_) | (with_reducible exact Nat.le_refl _) | omega | (simp only [World.size_alloc, World.size_setCell, World.size_drew]; omega) | (simp; omega) | (simp; done)))⟩
  · go_enter Try.func38, Try.ntmps38
    go_wp2_with (refine (calls_to_ext (depIs_any _ _ true (by simp) _)).mono ?_; rintro e w1 ⟨rfl, X, rfl⟩; have hX := X.size; simp only [World.size_alloc] at hX)
    go_still_tail 10, (by kernel_rfl)
    go_wp2
    exact bodyPost_ret (v := .agg #[.int .i64 a0, .int .i64 (max a1 s), .int .i64 a2, .int .i64 a3, .int .i64 a4, .int .i64 a5, .int .i64 a6]) (by simp [results, Try.results38, go_sem]) rfl ⟨by rw [HV.out]; simp <;> (try omega), by (repeat' (first | (with_reducible exact Below.refl _ _) | (with_reducible assumption) | (with_reducible refine Below.setCell ?_ ?_ _) | (with_reducible refine Below.alloc ?_ ?_ _) | (with_reducible refine Below.drew ?_) | (with_reducible refine below_drewN ?_ _) | (with_reducible refine Ext.grown _ ?_ ?_) | (with_reducible exact Nat.le_refl _) | omega | (simp only [World.size_alloc, World.size_setCell, World.size_drew]; omega) | (simp; omega) | (simp; done)))⟩
  · go_enter Try.func38, Try.ntmps38
    go_wp2_with (refine (calls_to_ext (depIs_any _ _ true (by simp) _)).mono ?_; rintro e w1 ⟨rfl, X, rfl⟩; have hX := X.size; simp only [World.size_alloc] at hX)
    go_still_tail 10, (by kernel_rfl)
    go_wp2
    exact bodyPost_ret (v := .agg #[.int .i64 a0, .int .i64 a1, .int .i64 (max a2 s), .int .i64 a3, .int .i64 a4, .int .i64 a5, .int .i64 a6]) (by simp [results, Try.results38, go_sem]) rfl ⟨by rw [HV.out]; simp <;> (try omega), by (repeat' (first | (with_reducible exact Below.refl _ _) | (with_reducible assumption) | (with_reducible refine Below.setCell ?_ ?_ _) | (with_reducible refine Below.alloc ?_ ?_ _) | (with_reducible refine Below.drew ?_) | (with_reducible refine below_drewN ?_ _) | (with_reducible refine Ext.grown _ ?_ ?_) | (with_reducible exact Nat.le_refl _) | omega | (simp only [World.size_alloc, World.size_setCell, World.size_drew]; omega) | (simp; omega) | (simp; done)))⟩
  · go_enter Try.func38, Try.ntmps38
    go_wp2_with (refine (calls_to_ext (depIs_any _ _ true (by simp) _)).mono ?_; rintro e w1 ⟨rfl, X, rfl⟩; have hX := X.size; simp only [World.size_alloc] at hX)
    go_still_tail 10, (by kernel_rfl)
    go_wp2
    exact bodyPost_ret (v := .agg #[.int .i64 a0, .int .i64 a1, .int .i64 a2, .int .i64 (max a3 s), .int .i64 a4, .int .i64 a5, .int .i64 a6]) (by simp [results, Try.results38, go_sem]) rfl ⟨by rw [HV.out]; simp <;> (try omega), by (repeat' (first | (with_reducible exact Below.refl _ _) | (with_reducible assumption) | (with_reducible refine Below.setCell ?_ ?_ _) | (with_reducible refine Below.alloc ?_ ?_ _) | (with_reducible refine Below.drew ?_) | (with_reducible refine below_drewN ?_ _) | (with_reducible refine Ext.grown _ ?_ ?_) | (with_reducible exact Nat.le_refl _) | omega | (simp only [World.size_alloc, World.size_setCell, World.size_drew]; omega) | (simp; omega) | (simp; done)))⟩
  · go_enter Try.func38, Try.ntmps38
    go_wp2_with (refine (calls_to_ext (depIs_any _ _ true (by simp) _)).mono ?_; rintro e w1 ⟨rfl, X, rfl⟩; have hX := X.size; simp only [World.size_alloc] at hX)
    go_still_tail 10, (by kernel_rfl)
    go_wp2
    exact bodyPost_ret (v := .agg #[.int .i64 a0, .int .i64 a1, .int .i64 a2, .int .i64 a3, .int .i64 (max a4 s), .int .i64 a5, .int .i64 a6]) (by simp [results, Try.results38, go_sem]) rfl ⟨by rw [HV.out]; simp <;> (try omega), by (repeat' (first | (with_reducible exact Below.refl _ _) | (with_reducible assumption) | (with_reducible refine Below.setCell ?_ ?_ _) | (with_reducible refine Below.alloc ?_ ?_ _) | (with_reducible refine Below.drew ?_) | (with_reducible refine below_drewN ?_ _) | (with_reducible refine Ext.grown _ ?_ ?_) | (with_reducible exact Nat.le_refl _) | omega | (simp only [World.size_alloc, World.size_setCell, World.size_drew]; omega) | (simp; omega) | (simp; done)))⟩
  · go_enter Try.func38, Try.ntmps38
    go_wp2_with (refine (calls_to_ext (depIs_any _ _ true (by simp) _)).mono ?_; rintro e w1 ⟨rfl, X, rfl⟩; have hX := X.size; simp only [World.size_alloc] at hX)
    go_still_tail 10, (by kernel_rfl)
    go_wp2
    exact bodyPost_ret (v := .agg #[.int .i64 a0, .int .i64 a1, .int .i64 a2, .int .i64 a3, .int .i64 a4, .int .i64 (max a5 s), .int .i64 a6]) (by simp [results, Try.results38, go_sem]) rfl ⟨by rw [HV.out]; simp <;> (try omega), by (repeat' (first | (with_reducible exact Below.refl _ _) | (with_reducible assumption) | (with_reducible refine Below.setCell ?_ ?_ _) | (with_reducible refine Below.alloc ?_ ?_ _) | (with_reducible refine Below.drew ?_) | (with_reducible refine below_drewN ?_ _) | (with_reducible refine Ext.grown _ ?_ ?_) | (with_reducible exact Nat.le_refl _) | omega | (simp only [World.size_alloc, World.size_setCell, World.size_drew]; omega) | (simp; omega) | (simp; done)))⟩
  · go_enter Try.func38, Try.ntmps38
    go_wp2_with (refine (calls_to_ext (depIs_any _ _ true (by simp) _)).mono ?_; rintro e w1 ⟨rfl, X, rfl⟩; have hX := X.size; simp only [World.size_alloc] at hX)
    go_still_tail 10, (by kernel_rfl)
    go_wp2
    exact bodyPost_ret (v := .agg #[.int .i64 a0, .int .i64 a1, .int .i64 a2, .int .i64 a3, .int .i64 a4, .int .i64 a5, .int .i64 (max a6 s)]) (by simp [results, Try.results38, go_sem]) rfl ⟨by rw [HV.out]; simp <;> (try omega), by (repeat' (first | (with_reducible exact Below.refl _ _) | (with_reducible assumption) | (with_reducible refine Below.setCell ?_ ?_ _) | (with_reducible refine Below.alloc ?_ ?_ _) | (with_reducible refine Below.drew ?_) | (with_reducible refine below_drewN ?_ _) | (with_reducible refine Ext.grown _ ?_ ?_) | (with_reducible exact Nat.le_refl _) | omega | (simp only [World.size_alloc, World.size_setCell, World.size_drew]; omega) | (simp; omega) | (simp; done)))⟩
end Go.Proofs.Ythnmccolfckhdaa
