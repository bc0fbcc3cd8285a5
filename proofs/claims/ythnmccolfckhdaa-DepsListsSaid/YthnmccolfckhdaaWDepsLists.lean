/- The law DepsLists: all that deps have is listed, each once, and counted. -/
import Derived.Test.YthnmccolfckhdaaInstsP
import Derived.Laws.StructEq
namespace Go.Proofs.Ythnmccolfckhdaa
open Go.RowKit
set_option linter.unusedSimpArgs false
set_option linter.unusedVariables false
attribute [local go_sem] eqDeps max2_int max_two min2_int min_two idxDeps Ext.cell Ext.frozen Ext.cell_set szlt1 szlt2 szlt3 szlt4 szlt5 szlt6
attribute [local simp] szlt1 szlt2 szlt3 szlt4 szlt5 szlt6

set_option maxHeartbeats 8000000 in
theorem walkDepsLists (a0 a1 a2 a3 a4 a5 a6 r s : Int) (ha0 : -9223372036854775808 ≤ a0 ∧ a0 ≤ 9223372036854775807) (ha1 : -9223372036854775808 ≤ a1 ∧ a1 ≤ 9223372036854775807) (ha2 : -9223372036854775808 ≤ a2 ∧ a2 ≤ 9223372036854775807) (ha3 : -9223372036854775808 ≤ a3 ∧ a3 ≤ 9223372036854775807) (ha4 : -9223372036854775808 ≤ a4 ∧ a4 ≤ 9223372036854775807) (ha5 : -9223372036854775808 ≤ a5 ∧ a5 ≤ 9223372036854775807) (ha6 : -9223372036854775808 ≤ a6 ∧ a6 ≤ 9223372036854775807) (hr : -9223372036854775808 ≤ r ∧ r ≤ 9223372036854775807) (hs : -9223372036854775808 ≤ s ∧ s ≤ 9223372036854775807) (w : World) :
    Calls Try.prog 15 #[.agg #[.int .i64 a0, .int .i64 a1, .int .i64 a2, .int .i64 a3, .int .i64 a4, .int .i64 a5, .int .i64 a6], .agg #[.int .i64 r, .int .i64 s]] w fun e w' => e = .returned (.bool true) ∧ Below w.heap.size w w' := by
  clear ha0 ha1 ha2 ha3 ha4 ha5 ha6 hr hs
  by_cases hR : 0 ≤ a0 ∧ a0 ≤ 1048576 ∧ 0 ≤ a1 ∧ a1 ≤ 1048576 ∧ 0 ≤ a2 ∧ a2 ≤ 1048576 ∧ 0 ≤ a3 ∧ a3 ≤ 1048576 ∧ 0 ≤ a4 ∧ a4 ≤ 1048576 ∧ 0 ≤ a5 ∧ a5 ≤ 1048576 ∧ 0 ≤ a6 ∧ a6 ≤ 1048576
  case neg =>
    go_enter Try.func15, Try.ntmps15
    go_wp2_with (first | (go_at_call 34; (first | (with_reducible refine (calls_ext (rRight_is _ _ _ _ _ _ _ false (ff hR) _)).mono ?_) | (with_reducible refine (calls_to_ext (rRight_is _ _ _ _ _ _ _ false (ff hR) _)).mono ?_)); rintro e w1 ⟨rfl, X, rfl⟩; have hX := X.size; (try simp only [World.size_alloc] at hX); have q0 : w.heap.size < X.w.heap.size := (by omega); have q1 : w.heap.size + 1 < X.w.heap.size := (by omega)) | (go_at_call 49; (first | (with_reducible refine (calls_ext (Insts_none _ _ _ _ _ _ _ hR _)).mono ?_) | (with_reducible refine (calls_to_ext (Insts_none _ _ _ _ _ _ _ hR _)).mono ?_)); rintro e w1 ⟨rfl, X, rfl⟩; have hX := X.size; (try simp only [World.size_alloc] at hX); have q0 : w.heap.size < X.w.heap.size := (by omega); have q1 : w.heap.size + 1 < X.w.heap.size := (by omega)) | (go_at_call 50; (first | (with_reducible refine (calls_ext (Count_none _ _ _ _ _ _ _ hR _)).mono ?_) | (with_reducible refine (calls_to_ext (Count_none _ _ _ _ _ _ _ hR _)).mono ?_)); rintro e w1 ⟨rfl, X, rfl⟩; have hX := X.size; (try simp only [World.size_alloc] at hX); have q0 : w.heap.size < X.w.heap.size := (by omega); have q1 : w.heap.size + 1 < X.w.heap.size := (by omega)) | (go_at_call 19; (first | (with_reducible refine (calls_ext (awake03 _)).mono ?_) | (with_reducible refine (calls_to_ext (awake03 _)).mono ?_)); rintro e w1 ⟨rfl, X, rfl⟩; have hX := X.size; (try simp only [World.size_alloc] at hX); have q0 : w.heap.size < X.w.heap.size := (by omega); have q1 : w.heap.size + 1 < X.w.heap.size := (by omega)))
    go_ret
    exact ⟨rfl, by (repeat' (first | (with_reducible exact Below.refl _ _) | (with_reducible assumption) | (with_reducible refine Below.setCell ?_ ?_ _) | (with_reducible refine Below.alloc ?_ ?_ _) | (with_reducible refine Below.drew ?_) | (with_reducible refine below_drewN ?_ _) | (with_reducible refine Ext.grown _ ?_ ?_) | (with_reducible exact Nat.le_refl _) | omega | (simp only [World.size_alloc, World.size_setCell, World.size_drew]; omega) | (simp; omega) | (simp; done)))⟩
  case pos =>
    have key : (200 < a0) ∨ (¬ 200 < a0 ∧ 200 < a1) ∨ (¬ 200 < a0 ∧ ¬ 200 < a1 ∧ 200 < a2) ∨ (¬ 200 < a0 ∧ ¬ 200 < a1 ∧ ¬ 200 < a2 ∧ 200 < a3) ∨ (¬ 200 < a0 ∧ ¬ 200 < a1 ∧ ¬ 200 < a2 ∧ ¬ 200 < a3 ∧ 200 < a4) ∨ (¬ 200 < a0 ∧ ¬ 200 < a1 ∧ ¬ 200 < a2 ∧ ¬ 200 < a3 ∧ ¬ 200 < a4 ∧ 200 < a5) ∨ (¬ 200 < a0 ∧ ¬ 200 < a1 ∧ ¬ 200 < a2 ∧ ¬ 200 < a3 ∧ ¬ 200 < a4 ∧ ¬ 200 < a5 ∧ 200 < a6) ∨ (0 ≤ a0 ∧ a0 ≤ 200 ∧ 0 ≤ a1 ∧ a1 ≤ 200 ∧ 0 ≤ a2 ∧ a2 ≤ 200 ∧ 0 ≤ a3 ∧ a3 ≤ 200 ∧ 0 ≤ a4 ∧ a4 ≤ 200 ∧ 0 ≤ a5 ∧ a5 ≤ 200 ∧ 0 ≤ a6 ∧ a6 ≤ 200) := by omega
    rcases key with b0 | ⟨b0, b1⟩ | ⟨b0, b1, b2⟩ | ⟨b0, b1, b2, b3⟩ | ⟨b0, b1, b2, b3, b4⟩ | ⟨b0, b1, b2, b3, b4, b5⟩ | ⟨b0, b1, b2, b3, b4, b5, b6⟩ | hA
    ·
      have d0 : decide (200 < a0) = true := decide_eq_true b0
      have HR := Lib.hid hR
      clear hR b0
      go_enter Try.func15, Try.ntmps15
      go_wp2_with (first | (go_at_call 34; (first | (with_reducible refine (calls_ext (rRight_is _ _ _ _ _ _ _ true (tt HR.out) _)).mono ?_) | (with_reducible refine (calls_to_ext (rRight_is _ _ _ _ _ _ _ true (tt HR.out) _)).mono ?_)); rintro e w1 ⟨rfl, X, rfl⟩; have hX := X.size; (try simp only [World.size_alloc] at hX); have q0 : w.heap.size < X.w.heap.size := (by omega); have q1 : w.heap.size + 1 < X.w.heap.size := (by omega)) | (go_at_call 19; (first | (with_reducible refine (calls_ext (awake03 _)).mono ?_) | (with_reducible refine (calls_to_ext (awake03 _)).mono ?_)); rintro e w1 ⟨rfl, X, rfl⟩; have hX := X.size; (try simp only [World.size_alloc] at hX); have q0 : w.heap.size < X.w.heap.size := (by omega); have q1 : w.heap.size + 1 < X.w.heap.size := (by omega)))
      refine wp_loop_rounds 8 ?_
      repeat any_goals (rw [rounds_succ]; go_wp2_with (first | (go_at_call 34; (first | (with_reducible refine (calls_ext (rRight_is _ _ _ _ _ _ _ true (tt HR.out) _)).mono ?_) | (with_reducible refine (calls_to_ext (rRight_is _ _ _ _ _ _ _ true (tt HR.out) _)).mono ?_)); rintro e w1 ⟨rfl, X, rfl⟩; have hX := X.size; (try simp only [World.size_alloc] at hX); have q0 : w.heap.size < X.w.heap.size := (by omega); have q1 : w.heap.size + 1 < X.w.heap.size := (by omega)) | (go_at_call 19; (first | (with_reducible refine (calls_ext (awake03 _)).mono ?_) | (with_reducible refine (calls_to_ext (awake03 _)).mono ?_)); rintro e w1 ⟨rfl, X, rfl⟩; have hX := X.size; (try simp only [World.size_alloc] at hX); have q0 : w.heap.size < X.w.heap.size := (by omega); have q1 : w.heap.size + 1 < X.w.heap.size := (by omega))))
      go_ret
      exact ⟨rfl, by (repeat' (first | (with_reducible exact Below.refl _ _) | (with_reducible assumption) | (with_reducible refine Below.setCell ?_ ?_ _) | (with_reducible refine Below.alloc ?_ ?_ _) | (with_reducible refine Below.drew ?_) | (with_reducible refine below_drewN ?_ _) | (with_reducible refine Ext.grown _ ?_ ?_) | (with_reducible exact Nat.le_refl _) | omega | (simp only [World.size_alloc, World.size_setCell, World.size_drew]; omega) | (simp; omega) | (simp; done)))⟩
    ·
      have d0 : decide (200 < a0) = false := decide_eq_false b0
      have d1 : decide (200 < a1) = true := decide_eq_true b1
      have HR := Lib.hid hR
      clear hR b0 b1
      go_enter Try.func15, Try.ntmps15
      go_wp2_with (first | (go_at_call 34; (first | (with_reducible refine (calls_ext (rRight_is _ _ _ _ _ _ _ true (tt HR.out) _)).mono ?_) | (with_reducible refine (calls_to_ext (rRight_is _ _ _ _ _ _ _ true (tt HR.out) _)).mono ?_)); rintro e w1 ⟨rfl, X, rfl⟩; have hX := X.size; (try simp only [World.size_alloc] at hX); have q0 : w.heap.size < X.w.heap.size := (by omega); have q1 : w.heap.size + 1 < X.w.heap.size := (by omega)) | (go_at_call 19; (first | (with_reducible refine (calls_ext (awake03 _)).mono ?_) | (with_reducible refine (calls_to_ext (awake03 _)).mono ?_)); rintro e w1 ⟨rfl, X, rfl⟩; have hX := X.size; (try simp only [World.size_alloc] at hX); have q0 : w.heap.size < X.w.heap.size := (by omega); have q1 : w.heap.size + 1 < X.w.heap.size := (by omega)))
      refine wp_loop_rounds 8 ?_
      repeat any_goals (rw [rounds_succ]; go_wp2_with (first | (go_at_call 34; (first | (with_reducible refine (calls_ext (rRight_is _ _ _ _ _ _ _ true (tt HR.out) _)).mono ?_) | (with_reducible refine (calls_to_ext (rRight_is _ _ _ _ _ _ _ true (tt HR.out) _)).mono ?_)); rintro e w1 ⟨rfl, X, rfl⟩; have hX := X.size; (try simp only [World.size_alloc] at hX); have q0 : w.heap.size < X.w.heap.size := (by omega); have q1 : w.heap.size + 1 < X.w.heap.size := (by omega)) | (go_at_call 19; (first | (with_reducible refine (calls_ext (awake03 _)).mono ?_) | (with_reducible refine (calls_to_ext (awake03 _)).mono ?_)); rintro e w1 ⟨rfl, X, rfl⟩; have hX := X.size; (try simp only [World.size_alloc] at hX); have q0 : w.heap.size < X.w.heap.size := (by omega); have q1 : w.heap.size + 1 < X.w.heap.size := (by omega))))
      go_ret
      exact ⟨rfl, by (repeat' (first | (with_reducible exact Below.refl _ _) | (with_reducible assumption) | (with_reducible refine Below.setCell ?_ ?_ _) | (with_reducible refine Below.alloc ?_ ?_ _) | (with_reducible refine Below.drew ?_) | (with_reducible refine below_drewN ?_ _) | (with_reducible refine Ext.grown _ ?_ ?_) | (with_reducible exact Nat.le_refl _) | omega | (simp only [World.size_alloc, World.size_setCell, World.size_drew]; omega) | (simp; omega) | (simp; done)))⟩
    ·
      have d0 : decide (200 < a0) = false := decide_eq_false b0
      have d1 : decide (200 < a1) = false := decide_eq_false b1
      have d2 : decide (200 < a2) = true := decide_eq_true b2
      have HR := Lib.hid hR
      clear hR b0 b1 b2
      go_enter Try.func15, Try.ntmps15
      go_wp2_with (first | (go_at_call 34; (first | (with_reducible refine (calls_ext (rRight_is _ _ _ _ _ _ _ true (tt HR.out) _)).mono ?_) | (with_reducible refine (calls_to_ext (rRight_is _ _ _ _ _ _ _ true (tt HR.out) _)).mono ?_)); rintro e w1 ⟨rfl, X, rfl⟩; have hX := X.size; (try simp only [World.size_alloc] at hX); have q0 : w.heap.size < X.w.heap.size := (by omega); have q1 : w.heap.size + 1 < X.w.heap.size := (by omega)) | (go_at_call 19; (first | (with_reducible refine (calls_ext (awake03 _)).mono ?_) | (with_reducible refine (calls_to_ext (awake03 _)).mono ?_)); rintro e w1 ⟨rfl, X, rfl⟩; have hX := X.size; (try simp only [World.size_alloc] at hX); have q0 : w.heap.size < X.w.heap.size := (by omega); have q1 : w.heap.size + 1 < X.w.heap.size := (by omega)))
      refine wp_loop_rounds 8 ?_
      repeat any_goals (rw [rounds_succ]; go_wp2_with (first | (go_at_call 34; (first | (with_reducible refine (calls_ext (rRight_is _ _ _ _ _ _ _ true (tt HR.out) _)).mono ?_) | (with_reducible refine (calls_to_ext (rRight_is _ _ _ _ _ _ _ true (tt HR.out) _)).mono ?_)); rintro e w1 ⟨rfl, X, rfl⟩; have hX := X.size; (try simp only [World.size_alloc] at hX); have q0 : w.heap.size < X.w.heap.size := (by omega); have q1 : w.heap.size + 1 < X.w.heap.size := (by omega)) | (go_at_call 19; (first | (with_reducible refine (calls_ext (awake03 _)).mono ?_) | (with_reducible refine (calls_to_ext (awake03 _)).mono ?_)); rintro e w1 ⟨rfl, X, rfl⟩; have hX := X.size; (try simp only [World.size_alloc] at hX); have q0 : w.heap.size < X.w.heap.size := (by omega); have q1 : w.heap.size + 1 < X.w.heap.size := (by omega))))
      go_ret
      exact ⟨rfl, by (repeat' (first | (with_reducible exact Below.refl _ _) | (with_reducible assumption) | (with_reducible refine Below.setCell ?_ ?_ _) | (with_reducible refine Below.alloc ?_ ?_ _) | (with_reducible refine Below.drew ?_) | (with_reducible refine below_drewN ?_ _) | (with_reducible refine Ext.grown _ ?_ ?_) | (with_reducible exact Nat.le_refl _) | omega | (simp only [World.size_alloc, World.size_setCell, World.size_drew]; omega) | (simp; omega) | (simp; done)))⟩
    ·
      have d0 : decide (200 < a0) = false := decide_eq_false b0
      have d1 : decide (200 < a1) = false := decide_eq_false b1
      have d2 : decide (200 < a2) = false := decide_eq_false b2
      have d3 : decide (200 < a3) = true := decide_eq_true b3
      have HR := Lib.hid hR
      clear hR b0 b1 b2 b3
      go_enter Try.func15, Try.ntmps15
      go_wp2_with (first | (go_at_call 34; (first | (with_reducible refine (calls_ext (rRight_is _ _ _ _ _ _ _ true (tt HR.out) _)).mono ?_) | (with_reducible refine (calls_to_ext (rRight_is _ _ _ _ _ _ _ true (tt HR.out) _)).mono ?_)); rintro e w1 ⟨rfl, X, rfl⟩; have hX := X.size; (try simp only [World.size_alloc] at hX); have q0 : w.heap.size < X.w.heap.size := (by omega); have q1 : w.heap.size + 1 < X.w.heap.size := (by omega)) | (go_at_call 19; (first | (with_reducible refine (calls_ext (awake03 _)).mono ?_) | (with_reducible refine (calls_to_ext (awake03 _)).mono ?_)); rintro e w1 ⟨rfl, X, rfl⟩; have hX := X.size; (try simp only [World.size_alloc] at hX); have q0 : w.heap.size < X.w.heap.size := (by omega); have q1 : w.heap.size + 1 < X.w.heap.size := (by omega)))
      refine wp_loop_rounds 8 ?_
      repeat any_goals (rw [rounds_succ]; go_wp2_with (first | (go_at_call 34; (first | (with_reducible refine (calls_ext (rRight_is _ _ _ _ _ _ _ true (tt HR.out) _)).mono ?_) | (with_reducible refine (calls_to_ext (rRight_is _ _ _ _ _ _ _ true (tt HR.out) _)).mono ?_)); rintro e w1 ⟨rfl, X, rfl⟩; have hX := X.size; (try simp only [World.size_alloc] at hX); have q0 : w.heap.size < X.w.heap.size := (by omega); have q1 : w.heap.size + 1 < X.w.heap.size := (by omega)) | (go_at_call 19; (first | (with_reducible refine (calls_ext (awake03 _)).mono ?_) | (with_reducible refine (calls_to_ext (awake03 _)).mono ?_)); rintro e w1 ⟨rfl, X, rfl⟩; have hX := X.size; (try simp only [World.size_alloc] at hX); have q0 : w.heap.size < X.w.heap.size := (by omega); have q1 : w.heap.size + 1 < X.w.heap.size := (by omega))))
      go_ret
      exact ⟨rfl, by (repeat' (first | (with_reducible exact Below.refl _ _) | (with_reducible assumption) | (with_reducible refine Below.setCell ?_ ?_ _) | (with_reducible refine Below.alloc ?_ ?_ _) | (with_reducible refine Below.drew ?_) | (with_reducible refine below_drewN ?_ _) | (with_reducible refine Ext.grown _ ?_ ?_) | (with_reducible exact Nat.le_refl _) | omega | (simp only [World.size_alloc, World.size_setCell, World.size_drew]; omega) | (simp; omega) | (simp; done)))⟩
    ·
      have d0 : decide (200 < a0) = false := decide_eq_false b0
      have d1 : decide (200 < a1) = false := decide_eq_false b1
      have d2 : decide (200 < a2) = false := decide_eq_false b2
      have d3 : decide (200 < a3) = false := decide_eq_false b3
      have d4 : decide (200 < a4) = true := decide_eq_true b4
      have HR := Lib.hid hR
      clear hR b0 b1 b2 b3 b4
      go_enter Try.func15, Try.ntmps15
      go_wp2_with (first | (go_at_call 34; (first | (with_reducible refine (calls_ext (rRight_is _ _ _ _ _ _ _ true (tt HR.out) _)).mono ?_) | (with_reducible refine (calls_to_ext (rRight_is _ _ _ _ _ _ _ true (tt HR.out) _)).mono ?_)); rintro e w1 ⟨rfl, X, rfl⟩; have hX := X.size; (try simp only [World.size_alloc] at hX); have q0 : w.heap.size < X.w.heap.size := (by omega); have q1 : w.heap.size + 1 < X.w.heap.size := (by omega)) | (go_at_call 19; (first | (with_reducible refine (calls_ext (awake03 _)).mono ?_) | (with_reducible refine (calls_to_ext (awake03 _)).mono ?_)); rintro e w1 ⟨rfl, X, rfl⟩; have hX := X.size; (try simp only [World.size_alloc] at hX); have q0 : w.heap.size < X.w.heap.size := (by omega); have q1 : w.heap.size + 1 < X.w.heap.size := (by omega)))
      refine wp_loop_rounds 8 ?_
      repeat any_goals (rw [rounds_succ]; go_wp2_with (first | (go_at_call 34; (first | (with_reducible refine (calls_ext (rRight_is _ _ _ _ _ _ _ true (tt HR.out) _)).mono ?_) | (with_reducible refine (calls_to_ext (rRight_is _ _ _ _ _ _ _ true (tt HR.out) _)).mono ?_)); rintro e w1 ⟨rfl, X, rfl⟩; have hX := X.size; (try simp only [World.size_alloc] at hX); have q0 : w.heap.size < X.w.heap.size := (by omega); have q1 : w.heap.size + 1 < X.w.heap.size := (by omega)) | (go_at_call 19; (first | (with_reducible refine (calls_ext (awake03 _)).mono ?_) | (with_reducible refine (calls_to_ext (awake03 _)).mono ?_)); rintro e w1 ⟨rfl, X, rfl⟩; have hX := X.size; (try simp only [World.size_alloc] at hX); have q0 : w.heap.size < X.w.heap.size := (by omega); have q1 : w.heap.size + 1 < X.w.heap.size := (by omega))))
      go_ret
      exact ⟨rfl, by (repeat' (first | (with_reducible exact Below.refl _ _) | (with_reducible assumption) | (with_reducible refine Below.setCell ?_ ?_ _) | (with_reducible refine Below.alloc ?_ ?_ _) | (with_reducible refine Below.drew ?_) | (with_reducible refine below_drewN ?_ _) | (with_reducible refine Ext.grown _ ?_ ?_) | (with_reducible exact Nat.le_refl _) | omega | (simp only [World.size_alloc, World.size_setCell, World.size_drew]; omega) | (simp; omega) | (simp; done)))⟩
    ·
      have d0 : decide (200 < a0) = false := decide_eq_false b0
      have d1 : decide (200 < a1) = false := decide_eq_false b1
      have d2 : decide (200 < a2) = false := decide_eq_false b2
      have d3 : decide (200 < a3) = false := decide_eq_false b3
      have d4 : decide (200 < a4) = false := decide_eq_false b4
      have d5 : decide (200 < a5) = true := decide_eq_true b5
      have HR := Lib.hid hR
      clear hR b0 b1 b2 b3 b4 b5
      go_enter Try.func15, Try.ntmps15
      go_wp2_with (first | (go_at_call 34; (first | (with_reducible refine (calls_ext (rRight_is _ _ _ _ _ _ _ true (tt HR.out) _)).mono ?_) | (with_reducible refine (calls_to_ext (rRight_is _ _ _ _ _ _ _ true (tt HR.out) _)).mono ?_)); rintro e w1 ⟨rfl, X, rfl⟩; have hX := X.size; (try simp only [World.size_alloc] at hX); have q0 : w.heap.size < X.w.heap.size := (by omega); have q1 : w.heap.size + 1 < X.w.heap.size := (by omega)) | (go_at_call 19; (first | (with_reducible refine (calls_ext (awake03 _)).mono ?_) | (with_reducible refine (calls_to_ext (awake03 _)).mono ?_)); rintro e w1 ⟨rfl, X, rfl⟩; have hX := X.size; (try simp only [World.size_alloc] at hX); have q0 : w.heap.size < X.w.heap.size := (by omega); have q1 : w.heap.size + 1 < X.w.heap.size := (by omega)))
      refine wp_loop_rounds 8 ?_
      repeat any_goals (rw [rounds_succ]; go_wp2_with (first | (go_at_call 34; (first | (with_reducible refine (calls_ext (rRight_is _ _ _ _ _ _ _ true (tt HR.out) _)).mono ?_) | (with_reducible refine (calls_to_ext (rRight_is _ _ _ _ _ _ _ true (tt HR.out) _)).mono ?_)); rintro e w1 ⟨rfl, X, rfl⟩; have hX := X.size; (try simp only [World.size_alloc] at hX); have q0 : w.heap.size < X.w.heap.size := (by omega); have q1 : w.heap.size + 1 < X.w.heap.size := (by omega)) | (go_at_call 19; (first | (with_reducible refine (calls_ext (awake03 _)).mono ?_) | (with_reducible refine (calls_to_ext (awake03 _)).mono ?_)); rintro e w1 ⟨rfl, X, rfl⟩; have hX := X.size; (try simp only [World.size_alloc] at hX); have q0 : w.heap.size < X.w.heap.size := (by omega); have q1 : w.heap.size + 1 < X.w.heap.size := (by omega))))
      go_ret
      exact ⟨rfl, by (repeat' (first | (with_reducible exact Below.refl _ _) | (with_reducible assumption) | (with_reducible refine Below.setCell ?_ ?_ _) | (with_reducible refine Below.alloc ?_ ?_ _) | (with_reducible refine Below.drew ?_) | (with_reducible refine below_drewN ?_ _) | (with_reducible refine Ext.grown _ ?_ ?_) | (with_reducible exact Nat.le_refl _) | omega | (simp only [World.size_alloc, World.size_setCell, World.size_drew]; omega) | (simp; omega) | (simp; done)))⟩
    ·
      have d0 : decide (200 < a0) = false := decide_eq_false b0
      have d1 : decide (200 < a1) = false := decide_eq_false b1
      have d2 : decide (200 < a2) = false := decide_eq_false b2
      have d3 : decide (200 < a3) = false := decide_eq_false b3
      have d4 : decide (200 < a4) = false := decide_eq_false b4
      have d5 : decide (200 < a5) = false := decide_eq_false b5
      have d6 : decide (200 < a6) = true := decide_eq_true b6
      have HR := Lib.hid hR
      clear hR b0 b1 b2 b3 b4 b5 b6
      go_enter Try.func15, Try.ntmps15
      go_wp2_with (first | (go_at_call 34; (first | (with_reducible refine (calls_ext (rRight_is _ _ _ _ _ _ _ true (tt HR.out) _)).mono ?_) | (with_reducible refine (calls_to_ext (rRight_is _ _ _ _ _ _ _ true (tt HR.out) _)).mono ?_)); rintro e w1 ⟨rfl, X, rfl⟩; have hX := X.size; (try simp only [World.size_alloc] at hX); have q0 : w.heap.size < X.w.heap.size := (by omega); have q1 : w.heap.size + 1 < X.w.heap.size := (by omega)) | (go_at_call 19; (first | (with_reducible refine (calls_ext (awake03 _)).mono ?_) | (with_reducible refine (calls_to_ext (awake03 _)).mono ?_)); rintro e w1 ⟨rfl, X, rfl⟩; have hX := X.size; (try simp only [World.size_alloc] at hX); have q0 : w.heap.size < X.w.heap.size := (by omega); have q1 : w.heap.size + 1 < X.w.heap.size := (by omega)))
      refine wp_loop_rounds 8 ?_
      repeat any_goals (rw [rounds_succ]; go_wp2_with (first | (go_at_call 34; (first | (with_reducible refine (calls_ext (rRight_is _ _ _ _ _ _ _ true (tt HR.out) _)).mono ?_) | (with_reducible refine (calls_to_ext (rRight_is _ _ _ _ _ _ _ true (tt HR.out) _)).mono ?_)); rintro e w1 ⟨rfl, X, rfl⟩; have hX := X.size; (try simp only [World.size_alloc] at hX); have q0 : w.heap.size < X.w.heap.size := (by omega); have q1 : w.heap.size + 1 < X.w.heap.size := (by omega)) | (go_at_call 19; (first | (with_reducible refine (calls_ext (awake03 _)).mono ?_) | (with_reducible refine (calls_to_ext (awake03 _)).mono ?_)); rintro e w1 ⟨rfl, X, rfl⟩; have hX := X.size; (try simp only [World.size_alloc] at hX); have q0 : w.heap.size < X.w.heap.size := (by omega); have q1 : w.heap.size + 1 < X.w.heap.size := (by omega))))
      go_ret
      exact ⟨rfl, by (repeat' (first | (with_reducible exact Below.refl _ _) | (with_reducible assumption) | (with_reducible refine Below.setCell ?_ ?_ _) | (with_reducible refine Below.alloc ?_ ?_ _) | (with_reducible refine Below.drew ?_) | (with_reducible refine below_drewN ?_ _) | (with_reducible refine Ext.grown _ ?_ ?_) | (with_reducible exact Nat.le_refl _) | omega | (simp only [World.size_alloc, World.size_setCell, World.size_drew]; omega) | (simp; omega) | (simp; done)))⟩
    ·
      have d0 : decide (200 < a0) = false := decide_eq_false (by omega)
      have d1 : decide (200 < a1) = false := decide_eq_false (by omega)
      have d2 : decide (200 < a2) = false := decide_eq_false (by omega)
      have d3 : decide (200 < a3) = false := decide_eq_false (by omega)
      have d4 : decide (200 < a4) = false := decide_eq_false (by omega)
      have d5 : decide (200 < a5) = false := decide_eq_false (by omega)
      have d6 : decide (200 < a6) = false := decide_eq_false (by omega)
      have s1 : wrap64 a0 = a0 := by unfold wrap64; omega
      have s2 : wrap64 (a0 + a1) = a0 + a1 := by unfold wrap64; omega
      have s3 : wrap64 (a0 + a1 + a2) = a0 + a1 + a2 := by unfold wrap64; omega
      have s4 : wrap64 (a0 + a1 + a2 + a3) = a0 + a1 + a2 + a3 := by unfold wrap64; omega
      have s5 : wrap64 (a0 + a1 + a2 + a3 + a4) = a0 + a1 + a2 + a3 + a4 := by unfold wrap64; omega
      have s6 : wrap64 (a0 + a1 + a2 + a3 + a4 + a5) = a0 + a1 + a2 + a3 + a4 + a5 := by unfold wrap64; omega
      have s7 : wrap64 (a0 + a1 + a2 + a3 + a4 + a5 + a6) = a0 + a1 + a2 + a3 + a4 + a5 + a6 := by unfold wrap64; omega
      obtain ⟨N, hN⟩ : ∃ N : Int, N = a0 + a1 + a2 + a3 + a4 + a5 + a6 := ⟨_, rfl⟩
      obtain ⟨fd, hfd⟩ : ∃ fd, fd = fD a0 a1 a2 a3 a4 a5 a6 := ⟨_, rfl⟩
      have hlen := il_len a0 a1 a2 a3 a4 a5 a6 hA
      rw [← hfd, ← hN] at hlen
      have HR := Lib.hid hR
      have HA := Lib.hid hA
      have HN := Lib.hid hN
      have HFD := Lib.hid hfd
      clear hN hfd hR
      obtain ⟨L, hL⟩ : ∃ L, (il fd 7).length = L := ⟨_, rfl⟩
      rw [hL] at hlen
      have hL14 : L ≤ 1400 := by have := HN.out; omega
      have HL := Lib.hid hL
      clear hL hA
      go_enter Try.func15, Try.ntmps15
      go_wp2_with (first | (go_at_call 34; (first | (with_reducible refine (calls_ext (rRight_is _ _ _ _ _ _ _ true (tt HR.out) _)).mono ?_) | (with_reducible refine (calls_to_ext (rRight_is _ _ _ _ _ _ _ true (tt HR.out) _)).mono ?_)); rintro e w1 ⟨rfl, X, rfl⟩; have hX := X.size; (try simp only [World.size_alloc] at hX); have q0 : w.heap.size < X.w.heap.size := (by omega); have q1 : w.heap.size + 1 < X.w.heap.size := (by omega)))
      refine wp_loop_rounds 8 ?_
      repeat any_goals (rw [rounds_succ]; go_wp2_with (first | (go_at_call 49; refine (Insts_any _ _ _ _ _ _ _ HA.out _).mono ?_; rintro e w2 ⟨v, rfl, hown, hb2⟩; rw [← HFD.out] at hown; obtain ⟨A, c, hv, hcs⟩ := own_cells2 hown; rw [HL.out] at hv hcs; subst hv; have HB := Lib.hid hb2; have KC := Lib.hid hcs; clear hown hcs hb2)))
      have HC : Hid (w2.cell? ⟨w.heap.size, 0, none⟩ = some (.int .i64 a0) ∧ w2.cell? ⟨w.heap.size, 1, none⟩ = some (.int .i64 a1) ∧ w2.cell? ⟨w.heap.size, 2, none⟩ = some (.int .i64 a2) ∧ w2.cell? ⟨w.heap.size, 3, none⟩ = some (.int .i64 a3) ∧ w2.cell? ⟨w.heap.size, 4, none⟩ = some (.int .i64 a4) ∧ w2.cell? ⟨w.heap.size, 5, none⟩ = some (.int .i64 a5) ∧ w2.cell? ⟨w.heap.size, 6, none⟩ = some (.int .i64 a6) ∧ w2.cell? ⟨w.heap.size + 1, 0, none⟩ = some (.int .i64 r) ∧ w2.cell? ⟨w.heap.size + 1, 1, none⟩ = some (.int .i64 s)) := Lib.hid (by
        refine ⟨?_, ?_, ?_, ?_, ?_, ?_, ?_, ?_, ?_⟩
        all_goals rw [HB.out.cell (by simp only []; omega)]
        all_goals rw [X.cell _ _ (by simp)]
        all_goals simp [go_sem])
      have hbs0 := HB.out.size
      go_loopw [9, 42] (fun fnd i wr => ∃ (j : Nat) (b : Bool), j ≤ L ∧ i = .int .i64 j ∧ fnd = .bool b ∧ Hid (b = decide ((r, s) ∈ (il fd 7).take j)) ∧ Hid (Below w2.heap.size w2 wr)) (fun _ i _ => L - (intOf i).toNat)
      case atStart => exact ⟨0, false, by omega, rfl, rfl, Lib.hid (by simp), Lib.hid (Below.refl _ _)⟩
      case round =>
        obtain ⟨j, b, hj, rfl, rfl, hfnd, hb⟩ := hrel
        have hbs := hb.out.size
        have hBo := hb.out
        obtain ⟨e0, e1, e2, e3, e4, e5, e6, e7, e8⟩ := HC.out
        rw [← hBo.cell (p := ⟨w.heap.size, 0, none⟩) (by simp only []; omega)] at e0
        rw [← hBo.cell (p := ⟨w.heap.size, 1, none⟩) (by simp only []; omega)] at e1
        rw [← hBo.cell (p := ⟨w.heap.size, 2, none⟩) (by simp only []; omega)] at e2
        rw [← hBo.cell (p := ⟨w.heap.size, 3, none⟩) (by simp only []; omega)] at e3
        rw [← hBo.cell (p := ⟨w.heap.size, 4, none⟩) (by simp only []; omega)] at e4
        rw [← hBo.cell (p := ⟨w.heap.size, 5, none⟩) (by simp only []; omega)] at e5
        rw [← hBo.cell (p := ⟨w.heap.size, 6, none⟩) (by simp only []; omega)] at e6
        rw [← hBo.cell (p := ⟨w.heap.size + 1, 0, none⟩) (by simp only []; omega)] at e7
        rw [← hBo.cell (p := ⟨w.heap.size + 1, 1, none⟩) (by simp only []; omega)] at e8
        clear hBo
        by_cases hlt : j < L
        · obtain ⟨g, rfl, k1, k2, kg⟩ := KC.out j hlt
          have m1 : wr.cell? ⟨g, j * 2, none⟩ = some (.int .i64 ((il fd 7).getD j (0, 0)).1) := by rw [hb.out.cell (p := ⟨g, j * 2, none⟩) kg, k1]
          have m2 : wr.cell? ⟨g, j * 2 + 1, none⟩ = some (.int .i64 ((il fd 7).getD j (0, 0)).2) := by rw [hb.out.cell (p := ⟨g, j * 2 + 1, none⟩) kg, k2]
          have hmem : (il fd 7).getD j (0, 0) ∈ il fd 7 := by
            have e : (il fd 7).getD j (0, 0) = (il fd 7)[j]'(by rw [HL.out]; exact hlt) := by simp [List.getD_eq_getElem?_getD, HL.out, hlt]
            rw [e]; exact List.getElem_mem _
          have htake : ((r, s) ∈ (il fd 7).take (j + 1)) ↔ ((r, s) ∈ (il fd 7).take j ∨ (r, s) = (il fd 7).getD j (0, 0)) := by
            have e : (il fd 7).getD j (0, 0) = (il fd 7)[j]'(by rw [HL.out]; exact hlt) := by simp [List.getD_eq_getElem?_getD, HL.out, hlt]
            rw [e, List.take_succ_eq_append_getElem (by rw [HL.out]; exact hlt), List.mem_append, List.mem_singleton]
          obtain ⟨x1, x2, hx⟩ : ∃ x1 x2, (il fd 7).getD j (0, 0) = (x1, x2) := ⟨_, _, rfl⟩
          rw [hx] at m1 m2 hmem htake
          simp only [] at m1 m2
          rw [HFD.out] at hmem
          have HH : Hid (true = decide (0 ≤ x1 ∧ x1 < 7 ∧ 1 ≤ x2 ∧ x2 ≤ at7 a0 a1 a2 a3 a4 a5 a6 x1)) := Lib.hid (tt ((mem_has a0 a1 a2 a3 a4 a5 a6 x1 x2 HA.out).1 hmem))
          have HT := Lib.hid htake
          have HX := Lib.hid hx
          have g1 : g < wr.heap.size := by omega
          have g2 : g < wr.heap.size + 1 := by omega
          have b1 : w.heap.size < wr.heap.size := by omega
          have b2 : w.heap.size + 1 < wr.heap.size := by omega
          have b3 : w.heap.size < wr.heap.size + 1 := by omega
          have b4 : w.heap.size + 1 < wr.heap.size + 1 := by omega
          clear hmem htake hx k1 k2
          go_wp2
          by_cases hj0 : j = 0
          · have dj : decide (0 < (j : Int)) = false := decide_eq_false (by omega)
            cases b
            all_goals
              refine wp_region_ext (by kernel_rfl) (by kernel_rfl) ?_; (repeat (go_big_quiet_step (first | (go_at_call 35; (with_reducible exact calls_ext (rHas_is _ _ _ _ _ _ _ _ _ true HH.out _)))))); refine wpQuiet_nil ?_; rintro w' ⟨Y, rfl⟩; have hY := Y.size; (try simp only [World.size_alloc, World.size_setCell] at hY); have p0 : w.heap.size < Y.w.heap.size := (by omega); have p1 : w.heap.size + 1 < Y.w.heap.size := (by omega); have p2 : wr.heap.size < Y.w.heap.size := (by omega); have p3 : g < Y.w.heap.size := (by omega)
              go_wp2
            all_goals (go_roundw)
            all_goals first
              | (case rel => exact ⟨j + 1, _, by omega, by go_num, rfl, Lib.hid (by first | exact tt (HT.out.2 (.inl (of_decide_eq_true hfnd.out.symm))) | exact tt (HT.out.2 (.inr (by rw [Prod.mk.injEq]; omega))) | exact ff (fun h => by rcases HT.out.1 h with h | h; exact absurd h (of_decide_eq_false hfnd.out.symm); rw [Prod.mk.injEq] at h; omega)), Lib.hid (Y.grown (hb.out.alloc hbs _) (by simp; omega))⟩)
              | (case measure => simp [intOf]; omega)
          · obtain ⟨q, hq⟩ : ∃ q, j = q + 1 := ⟨j - 1, by omega⟩
            have dj : decide (0 < (j : Int)) = true := decide_eq_true (by omega)
            have dj2 : decide (0 < j) = true := decide_eq_true (by omega)
            obtain ⟨g', hg', k3, k4, _⟩ := KC.out q (by omega)
            obtain rfl : g = g' := by injection hg' with h; injection h
            have m3 : wr.cell? ⟨g, q * 2, none⟩ = some (.int .i64 ((il fd 7).getD q (0, 0)).1) := by rw [hb.out.cell (p := ⟨g, q * 2, none⟩) kg, k3]
            have m4 : wr.cell? ⟨g, q * 2 + 1, none⟩ = some (.int .i64 ((il fd 7).getD q (0, 0)).2) := by rw [hb.out.cell (p := ⟨g, q * 2 + 1, none⟩) kg, k4]
            have hlt2 := il_next fd 7 q (by rw [HL.out]; omega)
            rw [← hq, HX.out] at hlt2
            obtain ⟨y1, y2, hy⟩ : ∃ x1 x2, (il fd 7).getD q (0, 0) = (x1, x2) := ⟨_, _, rfl⟩
            rw [hy] at m3 m4 hlt2
            simp only [] at m3 m4
            have hw : wrap64 ((j : Int) - 1) = q := by unfold wrap64; omega
            have hw2 : IntKind.i64.wrap ((j : Int) - 1) = q := by rw [IntKind.wrap_i64]; omega
            have hjN : (q : Int) < N := by omega
            have HQ := Lib.hid hq
            clear hy k3 k4 hg' hq
            unfold ilt at hlt2
            simp only [] at hlt2
            rcases hlt2 with hlt2 | ⟨he, hlt2⟩
            · have c1 : decide (x1 < y1) = false := decide_eq_false (by omega)
              have c2 : (y1 == x1) = false := by simp; omega
              cases b
              all_goals
                refine wp_region_ext (by kernel_rfl) (by kernel_rfl) ?_; (repeat (go_big_quiet_step (first | (go_at_call 35; (with_reducible exact calls_ext (rHas_is _ _ _ _ _ _ _ _ _ true HH.out _)))))); refine wpQuiet_nil ?_; rintro w' ⟨Y, rfl⟩; have hY := Y.size; (try simp only [World.size_alloc, World.size_setCell] at hY); have p0 : w.heap.size < Y.w.heap.size := (by omega); have p1 : w.heap.size + 1 < Y.w.heap.size := (by omega); have p2 : wr.heap.size < Y.w.heap.size := (by omega); have p3 : g < Y.w.heap.size := (by omega)
                go_wp2
              all_goals (go_roundw)
              all_goals first
                | (case rel => exact ⟨j + 1, _, by omega, by go_num, rfl, Lib.hid (by first | exact tt (HT.out.2 (.inl (of_decide_eq_true hfnd.out.symm))) | exact tt (HT.out.2 (.inr (by rw [Prod.mk.injEq]; omega))) | exact ff (fun h => by rcases HT.out.1 h with h | h; exact absurd h (of_decide_eq_false hfnd.out.symm); rw [Prod.mk.injEq] at h; omega)), Lib.hid (Y.grown (hb.out.alloc hbs _) (by simp; omega))⟩)
                | (case measure => simp [intOf]; omega)
            · have c1 : decide (x1 < y1) = false := decide_eq_false (by omega)
              have c2 : (y1 == x1) = true := by simp; omega
              have c3 : decide (x2 ≤ y2) = false := decide_eq_false (by omega)
              cases b
              all_goals
                refine wp_region_ext (by kernel_rfl) (by kernel_rfl) ?_; (repeat (go_big_quiet_step (first | (go_at_call 35; (with_reducible exact calls_ext (rHas_is _ _ _ _ _ _ _ _ _ true HH.out _)))))); refine wpQuiet_nil ?_; rintro w' ⟨Y, rfl⟩; have hY := Y.size; (try simp only [World.size_alloc, World.size_setCell] at hY); have p0 : w.heap.size < Y.w.heap.size := (by omega); have p1 : w.heap.size + 1 < Y.w.heap.size := (by omega); have p2 : wr.heap.size < Y.w.heap.size := (by omega); have p3 : g < Y.w.heap.size := (by omega)
                go_wp2
              all_goals (go_roundw)
              all_goals first
                | (case rel => exact ⟨j + 1, _, by omega, by go_num, rfl, Lib.hid (by first | exact tt (HT.out.2 (.inl (of_decide_eq_true hfnd.out.symm))) | exact tt (HT.out.2 (.inr (by rw [Prod.mk.injEq]; omega))) | exact ff (fun h => by rcases HT.out.1 h with h | h; exact absurd h (of_decide_eq_false hfnd.out.symm); rw [Prod.mk.injEq] at h; omega)), Lib.hid (Y.grown (hb.out.alloc hbs _) (by simp; omega))⟩)
                | (case measure => simp [intOf]; omega)
        · have hjL : j = L := by omega
          have hb1 : Hid (b = decide (0 ≤ r ∧ r < 7 ∧ 1 ≤ s ∧ s ≤ at7 a0 a1 a2 a3 a4 a5 a6 r)) := Lib.hid (by rw [hfnd.out, decide_eq_decide, List.take_of_length_le (by rw [HL.out]; omega), HFD.out]; exact mem_has a0 a1 a2 a3 a4 a5 a6 r s HA.out)
          have dN : (N == a0 + a1 + a2 + a3 + a4 + a5 + a6) = true := by simp; exact HN.out
          have dN2 : (a0 + a1 + a2 + a3 + a4 + a5 + a6 == N) = true := by simp; exact HN.out.symm
          have b1 : w.heap.size < wr.heap.size := by omega
          have b2 : w.heap.size + 1 < wr.heap.size := by omega
          have hBW : Hid (Below w.heap.size w wr) := Lib.hid ((X.grown (B := w.heap.size) (w := w) (by (repeat' (first | (with_reducible exact Below.refl _ _) | (with_reducible assumption) | (with_reducible refine Below.setCell ?_ ?_ _) | (with_reducible refine Below.alloc ?_ ?_ _) | (with_reducible refine Below.drew ?_) | (with_reducible refine below_drewN ?_ _) | (with_reducible refine Ext.grown _ ?_ ?_) | (with_reducible exact Nat.le_refl _) | omega | (simp only [World.size_alloc, World.size_setCell, World.size_drew]; omega) | (simp; omega) | (simp; done)))) (by simp; omega)).trans ((HB.out.mono (by omega)).trans (hb.out.mono (by omega))))
          go_wp2_with (first | (go_at_call 50; (first | (with_reducible refine (calls_ext (Count_is _ _ _ _ _ _ _ HA.out N HN.out _)).mono ?_) | (with_reducible refine (calls_to_ext (Count_is _ _ _ _ _ _ _ HA.out N HN.out _)).mono ?_)); rintro e w1 ⟨rfl, X, rfl⟩; have hX := X.size; (try simp only [World.size_alloc] at hX)) | (go_at_call 35; (first | (with_reducible refine (calls_ext (rHas_is _ _ _ _ _ _ _ _ _ b hb1.out _)).mono ?_) | (with_reducible refine (calls_to_ext (rHas_is _ _ _ _ _ _ _ _ _ b hb1.out _)).mono ?_)); rintro e w1 ⟨rfl, X, rfl⟩; have hX := X.size; (try simp only [World.size_alloc] at hX)) | (go_at_call 19; (first | (with_reducible refine (calls_ext (awake03 _)).mono ?_) | (with_reducible refine (calls_to_ext (awake03 _)).mono ?_)); rintro e w1 ⟨rfl, X, rfl⟩; have hX := X.size; (try simp only [World.size_alloc] at hX)))
          go_ret
          exact ⟨rfl, X.grown hBW.out (by omega)⟩

end Go.Proofs.Ythnmccolfckhdaa
