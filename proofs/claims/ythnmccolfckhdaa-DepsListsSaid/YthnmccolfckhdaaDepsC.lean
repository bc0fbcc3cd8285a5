/- What the functions of package deps' reference compute. -/
import Derived.Test.YthnmccolfckhdaaDeps
namespace Go.Proofs.Ythnmccolfckhdaa
open Go.RowKit
set_option linter.unusedSimpArgs false
set_option linter.unusedVariables false
attribute [local go_sem] eqDeps max2_int max_two min2_int min_two idxDeps Ext.cell Ext.frozen Ext.cell_set szlt1 szlt2 szlt3 szlt4 szlt5 szlt6

set_option maxHeartbeats 1000000 in
theorem rRight_any (a0 a1 a2 a3 a4 a5 a6 : Int) (w : World) :
    Calls Try.prog 34 #[.agg #[.int .i64 a0, .int .i64 a1, .int .i64 a2, .int .i64 a3, .int .i64 a4, .int .i64 a5, .int .i64 a6]] w fun e w' => e = .returned (.bool (decide (0 ≤ a0 ∧ a0 ≤ 1048576 ∧ 0 ≤ a1 ∧ a1 ≤ 1048576 ∧ 0 ≤ a2 ∧ a2 ≤ 1048576 ∧ 0 ≤ a3 ∧ a3 ≤ 1048576 ∧ 0 ≤ a4 ∧ a4 ≤ 1048576 ∧ 0 ≤ a5 ∧ a5 ≤ 1048576 ∧ 0 ≤ a6 ∧ a6 ≤ 1048576))) ∧ Below w.heap.size w w' := by
  go_enter Try.func34, Try.ntmps34
  go_wp2
  go_rounds 8
  all_goals
    go_ret
    exact ⟨ret_bool (by rw [Bool.eq_iff_iff]; simp; omega), by go_grown⟩

set_option maxHeartbeats 1000000 in
theorem rOver_any (a0 a1 a2 a3 a4 a5 a6 b0 b1 b2 b3 b4 b5 b6 : Int) (w : World) :
    Calls Try.prog 37 #[.agg #[.int .i64 a0, .int .i64 a1, .int .i64 a2, .int .i64 a3, .int .i64 a4, .int .i64 a5, .int .i64 a6], .agg #[.int .i64 b0, .int .i64 b1, .int .i64 b2, .int .i64 b3, .int .i64 b4, .int .i64 b5, .int .i64 b6]] w fun e w' => e = .returned (.bool (decide (b0 ≤ a0 ∧ b1 ≤ a1 ∧ b2 ≤ a2 ∧ b3 ≤ a3 ∧ b4 ≤ a4 ∧ b5 ≤ a5 ∧ b6 ≤ a6))) ∧ Below w.heap.size w w' := by
  go_enter Try.func37, Try.ntmps37
  go_wp2
  refine wp_loop_rounds 8 ?_
  repeat any_goals (rw [rounds_succ]; go_wp2; (try (go_quiet (fail); go_wp2)))
  all_goals
    go_ret
    exact ⟨ret_bool (by rw [Bool.eq_iff_iff]; simp; omega), by (repeat' (first | (with_reducible exact Below.refl _ _) | (with_reducible assumption) | (with_reducible refine Below.setCell ?_ ?_ _) | (with_reducible refine Below.alloc ?_ ?_ _) | (with_reducible refine Below.drew ?_) | (with_reducible refine below_drewN ?_ _) | (with_reducible refine Ext.grown _ ?_ ?_) | (with_reducible exact Nat.le_refl _) | omega | (simp only [World.size_alloc, World.size_setCell, World.size_drew]; omega) | (simp; omega) | (simp; done)))⟩

set_option maxHeartbeats 8000000 in
theorem rHas_any (a0 a1 a2 a3 a4 a5 a6 r s : Int) (w : World) :
    Calls Try.prog 35 #[.agg #[.int .i64 a0, .int .i64 a1, .int .i64 a2, .int .i64 a3, .int .i64 a4, .int .i64 a5, .int .i64 a6], .agg #[.int .i64 r, .int .i64 s]] w fun e w' => e = .returned (.bool (decide (0 ≤ r ∧ r < 7 ∧ 1 ≤ s ∧ s ≤ at7 a0 a1 a2 a3 a4 a5 a6 r))) ∧ Below w.heap.size w w' := by
  rcases rep_cases r with rfl | rfl | rfl | rfl | rfl | rfl | rfl | hr
  case' inr.inr.inr.inr.inr.inr.inr =>
    have e0 : decide (r = 0) = false := decide_eq_false (by omega)
    have g0 : (r == 0) = false := beq_eq_false_iff_ne.2 (by omega)
    have e1 : decide (r = 1) = false := decide_eq_false (by omega)
    have g1 : (r == 1) = false := beq_eq_false_iff_ne.2 (by omega)
    have e2 : decide (r = 2) = false := decide_eq_false (by omega)
    have g2 : (r == 2) = false := beq_eq_false_iff_ne.2 (by omega)
    have e3 : decide (r = 3) = false := decide_eq_false (by omega)
    have g3 : (r == 3) = false := beq_eq_false_iff_ne.2 (by omega)
    have e4 : decide (r = 4) = false := decide_eq_false (by omega)
    have g4 : (r == 4) = false := beq_eq_false_iff_ne.2 (by omega)
    have e5 : decide (r = 5) = false := decide_eq_false (by omega)
    have g5 : (r == 5) = false := beq_eq_false_iff_ne.2 (by omega)
    have e6 : decide (r = 6) = false := decide_eq_false (by omega)
    have g6 : (r == 6) = false := beq_eq_false_iff_ne.2 (by omega)
    go_enter Try.func35, Try.ntmps35
    go_wp2
    refine wp_loop_rounds 8 ?_
    repeat any_goals (rw [rounds_succ]; go_wp2; (try (go_quiet (fail); go_wp2)))
    go_ret
    exact ⟨ret_bool (by simp; omega), by (repeat' (first | (with_reducible exact Below.refl _ _) | (with_reducible assumption) | (with_reducible refine Below.setCell ?_ ?_ _) | (with_reducible refine Below.alloc ?_ ?_ _) | (with_reducible refine Below.drew ?_) | (with_reducible refine below_drewN ?_ _) | (with_reducible refine Ext.grown _ ?_ ?_) | (with_reducible exact Nat.le_refl _) | omega | (simp only [World.size_alloc, World.size_setCell, World.size_drew]; omega) | (simp; omega) | (simp; done)))⟩
  all_goals
    by_cases hs : 0 < s
    all_goals
      have hsb := hs
      first
        | replace hsb : decide (0 < s) = true := decide_eq_true hs
        | replace hsb : decide (0 < s) = false := decide_eq_false hs
      go_enter Try.func35, Try.ntmps35
      go_wp2
      refine wp_loop_rounds 8 ?_
      repeat any_goals (rw [rounds_succ]; go_wp2; (try (go_quiet (fail); go_wp2)))
      all_goals
        go_ret
        exact ⟨ret_bool (by rw [Bool.eq_iff_iff]; simp [at7] <;> (try omega)), by (repeat' (first | (with_reducible exact Below.refl _ _) | (with_reducible assumption) | (with_reducible refine Below.setCell ?_ ?_ _) | (with_reducible refine Below.alloc ?_ ?_ _) | (with_reducible refine Below.drew ?_) | (with_reducible refine below_drewN ?_ _) | (with_reducible refine Ext.grown _ ?_ ?_) | (with_reducible exact Nat.le_refl _) | omega | (simp only [World.size_alloc, World.size_setCell, World.size_drew]; omega) | (simp; omega) | (simp; done)))⟩

set_option maxHeartbeats 8000000 in
theorem rWith_any (a0 a1 a2 a3 a4 a5 a6 r s : Int) (v : Value) (hv : v = .agg #[.int .i64 (if r = 0 then max a0 s else a0), .int .i64 (if r = 1 then max a1 s else a1), .int .i64 (if r = 2 then max a2 s else a2), .int .i64 (if r = 3 then max a3 s else a3), .int .i64 (if r = 4 then max a4 s else a4), .int .i64 (if r = 5 then max a5 s else a5), .int .i64 (if r = 6 then max a6 s else a6)]) (w : World) :
    Calls Try.prog 39 #[.agg #[.int .i64 a0, .int .i64 a1, .int .i64 a2, .int .i64 a3, .int .i64 a4, .int .i64 a5, .int .i64 a6], .agg #[.int .i64 r, .int .i64 s]] w fun e w' => e = .returned v ∧ Below w.heap.size w w' := by
  have HV := Lib.hid hv
  clear hv
  rcases rep_cases r with rfl | rfl | rfl | rfl | rfl | rfl | rfl | hr
  case' inr.inr.inr.inr.inr.inr.inr =>
    have e0 : decide (r = 0) = false := decide_eq_false (by omega)
    have g0 : (r == 0) = false := beq_eq_false_iff_ne.2 (by omega)
    have e1 : decide (r = 1) = false := decide_eq_false (by omega)
    have g1 : (r == 1) = false := beq_eq_false_iff_ne.2 (by omega)
    have e2 : decide (r = 2) = false := decide_eq_false (by omega)
    have g2 : (r == 2) = false := beq_eq_false_iff_ne.2 (by omega)
    have e3 : decide (r = 3) = false := decide_eq_false (by omega)
    have g3 : (r == 3) = false := beq_eq_false_iff_ne.2 (by omega)
    have e4 : decide (r = 4) = false := decide_eq_false (by omega)
    have g4 : (r == 4) = false := beq_eq_false_iff_ne.2 (by omega)
    have e5 : decide (r = 5) = false := decide_eq_false (by omega)
    have g5 : (r == 5) = false := beq_eq_false_iff_ne.2 (by omega)
    have e6 : decide (r = 6) = false := decide_eq_false (by omega)
    have g6 : (r == 6) = false := beq_eq_false_iff_ne.2 (by omega)
    have n0 := show ¬ (r = 0) by omega
    have n1 := show ¬ (r = 1) by omega
    have n2 := show ¬ (r = 2) by omega
    have n3 := show ¬ (r = 3) by omega
    have n4 := show ¬ (r = 4) by omega
    have n5 := show ¬ (r = 5) by omega
    have n6 := show ¬ (r = 6) by omega
    go_enter Try.func39, Try.ntmps39
    go_wp2
    refine wp_loop_rounds 8 ?_
    repeat any_goals (rw [rounds_succ]; go_wp2; (try (go_quiet (fail); go_wp2)))
    exact bodyPost_ret (v := .agg #[.int .i64 a0, .int .i64 a1, .int .i64 a2, .int .i64 a3, .int .i64 a4, .int .i64 a5, .int .i64 a6]) (by simp [results, Try.results39, go_sem]) rfl ⟨by rw [HV.out]; simp [n0, n1, n2, n3, n4, n5, n6], by (repeat' (first | (with_reducible exact Below.refl _ _) | (with_reducible assumption) | (with_reducible refine Below.setCell ?_ ?_ _) | (with_reducible refine Below.alloc ?_ ?_ _) | (with_reducible refine Below.drew ?_) | (with_reducible refine below_drewN ?_ _) | (with_reducible refine Ext.grown _ ?_ ?_) | (with_reducible exact Nat.le_refl _) | omega | (simp only [World.size_alloc, World.size_setCell, World.size_drew]; omega) | (simp; omega) | (simp; done)))⟩

  · go_enter Try.func39, Try.ntmps39
    go_wp2
    refine wp_loop_rounds 8 ?_
    repeat any_goals (rw [rounds_succ]; go_wp2; (try (go_quiet (fail); go_wp2)))
    all_goals first
      | (refine bodyPost_ret (v := .agg #[.int .i64 s, .int .i64 a1, .int .i64 a2, .int .i64 a3, .int .i64 a4, .int .i64 a5, .int .i64 a6]) ?ca rfl ⟨?cb, ?cc⟩; (case ca => simp [results, Try.results39, go_sem]); (case cb => (rw [HV.out]; simp <;> omega)); (case cc => (repeat' (first | (with_reducible exact Below.refl _ _) | (with_reducible assumption) | (with_reducible refine Below.setCell ?_ ?_ _) | (with_reducible refine Below.alloc ?_ ?_ _) | (with_reducible refine Below.drew ?_) | (with_reducible refine below_drewN ?_ _) | (with_reducible refine Ext.grown _ ?_ ?_) | (with_reducible exact Nat.le_refl _) | omega | (simp only [World.size_alloc, World.size_setCell, World.size_drew]; omega) | (simp; omega) | (simp; done)))))
      | (refine bodyPost_ret (v := .agg #[.int .i64 a0, .int .i64 a1, .int .i64 a2, .int .i64 a3, .int .i64 a4, .int .i64 a5, .int .i64 a6]) ?ca rfl ⟨?cb, ?cc⟩; (case ca => simp [results, Try.results39, go_sem]); (case cb => (rw [HV.out]; simp <;> omega)); (case cc => (repeat' (first | (with_reducible exact Below.refl _ _) | (with_reducible assumption) | (with_reducible refine Below.setCell ?_ ?_ _) | (with_reducible refine Below.alloc ?_ ?_ _) | (with_reducible refine Below.drew ?_) | (with_reducible refine below_drewN ?_ _) | (with_reducible refine Ext.grown _ ?_ ?_) | (with_reducible exact Nat.le_refl _) | omega | (simp only [World.size_alloc, World.size_setCell, World.size_drew]; omega) | (simp; omega) | (simp; done)))))
  · go_enter Try.func39, Try.ntmps39
    go_wp2
    refine wp_loop_rounds 8 ?_
    repeat any_goals (rw [rounds_succ]; go_wp2; (try (go_quiet (fail); go_wp2)))
    all_goals first
      | (refine bodyPost_ret (v := .agg #[.int .i64 a0, .int .i64 s, .int .i64 a2, .int .i64 a3, .int .i64 a4, .int .i64 a5, .int .i64 a6]) ?ca rfl ⟨?cb, ?cc⟩; (case ca => simp [results, Try.results39, go_sem]); (case cb => (rw [HV.out]; simp <;> omega)); (case cc => (repeat' (first | (with_reducible exact Below.refl _ _) | (with_reducible assumption) | (with_reducible refine Below.setCell ?_ ?_ _) | (with_reducible refine Below.alloc ?_ ?_ _) | (with_reducible refine Below.drew ?_) | (with_reducible refine below_drewN ?_ _) | (with_reducible refine Ext.grown _ ?_ ?_) | (with_reducible exact Nat.le_refl _) | omega | (simp only [World.size_alloc, World.size_setCell, World.size_drew]; omega) | (simp; omega) | (simp; done)))))
      | (refine bodyPost_ret (v := .agg #[.int .i64 a0, .int .i64 a1, .int .i64 a2, .int .i64 a3, .int .i64 a4, .int .i64 a5, .int .i64 a6]) ?ca rfl ⟨?cb, ?cc⟩; (case ca => simp [results, Try.results39, go_sem]); (case cb => (rw [HV.out]; simp <;> omega)); (case cc => (repeat' (first | (with_reducible exact Below.refl _ _) | (with_reducible assumption) | (with_reducible refine Below.setCell ?_ ?_ _) | (with_reducible refine Below.alloc ?_ ?_ _) | (with_reducible refine Below.drew ?_) | (with_reducible refine below_drewN ?_ _) | (with_reducible refine Ext.grown _ ?_ ?_) | (with_reducible exact Nat.le_refl _) | omega | (simp only [World.size_alloc, World.size_setCell, World.size_drew]; omega) | (simp; omega) | (simp; done)))))
  · go_enter Try.func39, Try.ntmps39
    go_wp2
    refine wp_loop_rounds 8 ?_
    repeat any_goals (rw [rounds_succ]; go_wp2; (try (go_quiet (fail); go_wp2)))
    all_goals first
      | (refine bodyPost_ret (v := .agg #[.int .i64 a0, .int .i64 a1, .int .i64 s, .int .i64 a3, .int .i64 a4, .int .i64 a5, .int .i64 a6]) ?ca rfl ⟨?cb, ?cc⟩; (case ca => simp [results, Try.results39, go_sem]); (case cb => (rw [HV.out]; simp <;> omega)); (case cc => (repeat' (first | (with_reducible exact Below.refl _ _) | (with_reducible assumption) | (with_reducible refine Below.setCell ?_ ?_ _) | (with_reducible refine Below.alloc ?_ ?_ _) | (with_reducible refine Below.drew ?_) | (with_reducible refine below_drewN ?_ _) | (with_reducible refine Ext.grown _ ?_ ?_) | (with_reducible exact Nat.le_refl _) | omega | (simp only [World.size_alloc, World.size_setCell, World.size_drew]; omega) | (simp; omega) | (simp; done)))))
      | (refine bodyPost_ret (v := .agg #[.int .i64 a0, .int .i64 a1, .int .i64 a2, .int .i64 a3, .int .i64 a4, .int .i64 a5, .int .i64 a6]) ?ca rfl ⟨?cb, ?cc⟩; (case ca => simp [results, Try.results39, go_sem]); (case cb => (rw [HV.out]; simp <;> omega)); (case cc => (repeat' (first | (with_reducible exact Below.refl _ _) | (with_reducible assumption) | (with_reducible refine Below.setCell ?_ ?_ _) | (with_reducible refine Below.alloc ?_ ?_ _) | (with_reducible refine Below.drew ?_) | (with_reducible refine below_drewN ?_ _) | (with_reducible refine Ext.grown _ ?_ ?_) | (with_reducible exact Nat.le_refl _) | omega | (simp only [World.size_alloc, World.size_setCell, World.size_drew]; omega) | (simp; omega) | (simp; done)))))
  · go_enter Try.func39, Try.ntmps39
    go_wp2
    refine wp_loop_rounds 8 ?_
    repeat any_goals (rw [rounds_succ]; go_wp2; (try (go_quiet (fail); go_wp2)))
    all_goals first
      | (refine bodyPost_ret (v := .agg #[.int .i64 a0, .int .i64 a1, .int .i64 a2, .int .i64 s, .int .i64 a4, .int .i64 a5, .int .i64 a6]) ?ca rfl ⟨?cb, ?cc⟩; (case ca => simp [results, Try.results39, go_sem]); (case cb => (rw [HV.out]; simp <;> omega)); (case cc => (repeat' (first | (with_reducible exact Below.refl _ _) | (with_reducible assumption) | (with_reducible refine Below.setCell ?_ ?_ _) | (with_reducible refine Below.alloc ?_ ?_ _) | (with_reducible refine Below.drew ?_) | (with_reducible refine below_drewN ?_ _) | (with_reducible refine Ext.grown _ ?_ ?_) | (with_reducible exact Nat.le_refl _) | omega | (simp only [World.size_alloc, World.size_setCell, World.size_drew]; omega) | (simp; omega) | (simp; done)))))
      | (refine bodyPost_ret (v := .agg #[.int .i64 a0, .int .i64 a1, .int .i64 a2, .int .i64 a3, .int .i64 a4, .int .i64 a5, .int .i64 a6]) ?ca rfl ⟨?cb, ?cc⟩; (case ca => simp [results, Try.results39, go_sem]); (case cb => (rw [HV.out]; simp <;> omega)); (case cc => (repeat' (first | (with_reducible exact Below.refl _ _) | (with_reducible assumption) | (with_reducible refine Below.setCell ?_ ?_ _) | (with_reducible refine Below.alloc ?_ ?_ _) | (with_reducible refine Below.drew ?_) | (with_reducible refine below_drewN ?_ _) | (with_reducible refine Ext.grown _ ?_ ?_) | (with_reducible exact Nat.le_refl _) | omega | (simp only [World.size_alloc, World.size_setCell, World.size_drew]; omega) | (simp; omega) | (simp; done)))))
  · go_enter Try.func39, Try.ntmps39
    go_wp2
    refine wp_loop_rounds 8 ?_
    repeat any_goals (rw [rounds_succ]; go_wp2; (try (go_quiet (fail); go_wp2)))
    all_goals first
      | (refine bodyPost_ret (v := .agg #[.int .i64 a0, .int .i64 a1, .int .i64 a2, .int .i64 a3, .int .i64 s, .int .i64 a5, .int .i64 a6]) ?ca rfl ⟨?cb, ?cc⟩; (case ca => simp [results, Try.results39, go_sem]); (case cb => (rw [HV.out]; simp <;> omega)); (case cc => (repeat' (first | (with_reducible exact Below.refl _ _) | (with_reducible assumption) | (with_reducible refine Below.setCell ?_ ?_ _) | (with_reducible refine Below.alloc ?_ ?_ _) | (with_reducible refine Below.drew ?_) | (with_reducible refine below_drewN ?_ _) | (with_reducible refine Ext.grown _ ?_ ?_) | (with_reducible exact Nat.le_refl _) | omega | (simp only [World.size_alloc, World.size_setCell, World.size_drew]; omega) | (simp; omega) | (simp; done)))))
      | (refine bodyPost_ret (v := .agg #[.int .i64 a0, .int .i64 a1, .int .i64 a2, .int .i64 a3, .int .i64 a4, .int .i64 a5, .int .i64 a6]) ?ca rfl ⟨?cb, ?cc⟩; (case ca => simp [results, Try.results39, go_sem]); (case cb => (rw [HV.out]; simp <;> omega)); (case cc => (repeat' (first | (with_reducible exact Below.refl _ _) | (with_reducible assumption) | (with_reducible refine Below.setCell ?_ ?_ _) | (with_reducible refine Below.alloc ?_ ?_ _) | (with_reducible refine Below.drew ?_) | (with_reducible refine below_drewN ?_ _) | (with_reducible refine Ext.grown _ ?_ ?_) | (with_reducible exact Nat.le_refl _) | omega | (simp only [World.size_alloc, World.size_setCell, World.size_drew]; omega) | (simp; omega) | (simp; done)))))
  · go_enter Try.func39, Try.ntmps39
    go_wp2
    refine wp_loop_rounds 8 ?_
    repeat any_goals (rw [rounds_succ]; go_wp2; (try (go_quiet (fail); go_wp2)))
    all_goals first
      | (refine bodyPost_ret (v := .agg #[.int .i64 a0, .int .i64 a1, .int .i64 a2, .int .i64 a3, .int .i64 a4, .int .i64 s, .int .i64 a6]) ?ca rfl ⟨?cb, ?cc⟩; (case ca => simp [results, Try.results39, go_sem]); (case cb => (rw [HV.out]; simp <;> omega)); (case cc => (repeat' (first | (with_reducible exact Below.refl _ _) | (with_reducible assumption) | (with_reducible refine Below.setCell ?_ ?_ _) | (with_reducible refine Below.alloc ?_ ?_ _) | (with_reducible refine Below.drew ?_) | (with_reducible refine below_drewN ?_ _) | (with_reducible refine Ext.grown _ ?_ ?_) | (with_reducible exact Nat.le_refl _) | omega | (simp only [World.size_alloc, World.size_setCell, World.size_drew]; omega) | (simp; omega) | (simp; done)))))
      | (refine bodyPost_ret (v := .agg #[.int .i64 a0, .int .i64 a1, .int .i64 a2, .int .i64 a3, .int .i64 a4, .int .i64 a5, .int .i64 a6]) ?ca rfl ⟨?cb, ?cc⟩; (case ca => simp [results, Try.results39, go_sem]); (case cb => (rw [HV.out]; simp <;> omega)); (case cc => (repeat' (first | (with_reducible exact Below.refl _ _) | (with_reducible assumption) | (with_reducible refine Below.setCell ?_ ?_ _) | (with_reducible refine Below.alloc ?_ ?_ _) | (with_reducible refine Below.drew ?_) | (with_reducible refine below_drewN ?_ _) | (with_reducible refine Ext.grown _ ?_ ?_) | (with_reducible exact Nat.le_refl _) | omega | (simp only [World.size_alloc, World.size_setCell, World.size_drew]; omega) | (simp; omega) | (simp; done)))))
  · go_enter Try.func39, Try.ntmps39
    go_wp2
    refine wp_loop_rounds 8 ?_
    repeat any_goals (rw [rounds_succ]; go_wp2; (try (go_quiet (fail); go_wp2)))
    all_goals first
      | (refine bodyPost_ret (v := .agg #[.int .i64 a0, .int .i64 a1, .int .i64 a2, .int .i64 a3, .int .i64 a4, .int .i64 a5, .int .i64 s]) ?ca rfl ⟨?cb, ?cc⟩; (case ca => simp [results, Try.results39, go_sem]); (case cb => (rw [HV.out]; simp <;> omega)); (case cc => (repeat' (first | (with_reducible exact Below.refl _ _) | (with_reducible assumption) | (with_reducible refine Below.setCell ?_ ?_ _) | (with_reducible refine Below.alloc ?_ ?_ _) | (with_reducible refine Below.drew ?_) | (with_reducible refine below_drewN ?_ _) | (with_reducible refine Ext.grown _ ?_ ?_) | (with_reducible exact Nat.le_refl _) | omega | (simp only [World.size_alloc, World.size_setCell, World.size_drew]; omega) | (simp; omega) | (simp; done)))))
      | (refine bodyPost_ret (v := .agg #[.int .i64 a0, .int .i64 a1, .int .i64 a2, .int .i64 a3, .int .i64 a4, .int .i64 a5, .int .i64 a6]) ?ca rfl ⟨?cb, ?cc⟩; (case ca => simp [results, Try.results39, go_sem]); (case cb => (rw [HV.out]; simp <;> omega)); (case cc => (repeat' (first | (with_reducible exact Below.refl _ _) | (with_reducible assumption) | (with_reducible refine Below.setCell ?_ ?_ _) | (with_reducible refine Below.alloc ?_ ?_ _) | (with_reducible refine Below.drew ?_) | (with_reducible refine below_drewN ?_ _) | (with_reducible refine Ext.grown _ ?_ ?_) | (with_reducible exact Nat.le_refl _) | omega | (simp only [World.size_alloc, World.size_setCell, World.size_drew]; omega) | (simp; omega) | (simp; done)))))
end Go.Proofs.Ythnmccolfckhdaa
