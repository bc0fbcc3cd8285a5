/- The contracts of package deps with a given answer; what the laws of layer 3 ask of them at one point. -/
import Derived.Test.YthnmccolfckhdaaDeps
namespace Go.Proofs.Ythnmccolfckhdaa
open Go.RowKit
set_option linter.unusedSimpArgs false
set_option linter.unusedVariables false
attribute [local go_sem] eqDeps max2_int max_two min2_int min_two idxDeps Ext.cell Ext.frozen Ext.cell_set szlt1 szlt2 szlt3 szlt4 szlt5 szlt6
attribute [local simp] szlt1 szlt2 szlt3 szlt4 szlt5 szlt6

theorem Over_is (a0 a1 a2 a3 a4 a5 a6 b0 b1 b2 b3 b4 b5 b6 : Int) (x : Bool) (hx : x = decide (b0 ≤ a0 ∧ b1 ≤ a1 ∧ b2 ≤ a2 ∧ b3 ≤ a3 ∧ b4 ≤ a4 ∧ b5 ≤ a5 ∧ b6 ≤ a6)) (w : World) :
    Calls Try.prog 17 #[.agg #[.int .i64 a0, .int .i64 a1, .int .i64 a2, .int .i64 a3, .int .i64 a4, .int .i64 a5, .int .i64 a6], .agg #[.int .i64 b0, .int .i64 b1, .int .i64 b2, .int .i64 b3, .int .i64 b4, .int .i64 b5, .int .i64 b6]] w fun e w' => e = .returned (.bool x) ∧ Below w.heap.size w w' := by
  subst hx
  exact Over_any _ _ _ _ _ _ _ _ _ _ _ _ _ _ w
theorem Right_is (a0 a1 a2 a3 a4 a5 a6 : Int) (x : Bool) (hx : x = decide (0 ≤ a0 ∧ a0 ≤ 1048576 ∧ 0 ≤ a1 ∧ a1 ≤ 1048576 ∧ 0 ≤ a2 ∧ a2 ≤ 1048576 ∧ 0 ≤ a3 ∧ a3 ≤ 1048576 ∧ 0 ≤ a4 ∧ a4 ≤ 1048576 ∧ 0 ≤ a5 ∧ a5 ≤ 1048576 ∧ 0 ≤ a6 ∧ a6 ≤ 1048576)) (w : World) :
    Calls Try.prog 33 #[.agg #[.int .i64 a0, .int .i64 a1, .int .i64 a2, .int .i64 a3, .int .i64 a4, .int .i64 a5, .int .i64 a6]] w fun e w' => e = .returned (.bool x) ∧ Below w.heap.size w w' := by
  subst hx
  exact Right_any _ _ _ _ _ _ _ w
theorem Has_is (a0 a1 a2 a3 a4 a5 a6 r s : Int) (x : Bool) (hx : x = decide (0 ≤ r ∧ r < 7 ∧ 1 ≤ s ∧ s ≤ at7 a0 a1 a2 a3 a4 a5 a6 r)) (w : World) :
    Calls Try.prog 18 #[.agg #[.int .i64 a0, .int .i64 a1, .int .i64 a2, .int .i64 a3, .int .i64 a4, .int .i64 a5, .int .i64 a6], .agg #[.int .i64 r, .int .i64 s]] w fun e w' => e = .returned (.bool x) ∧ Below w.heap.size w w' := by
  subst hx
  exact Has_any _ _ _ _ _ _ _ _ _ w
theorem Join_is (a0 a1 a2 a3 a4 a5 a6 b0 b1 b2 b3 b4 b5 b6 : Int) (v : Value) (hv : v = .agg #[.int .i64 (max a0 b0), .int .i64 (max a1 b1), .int .i64 (max a2 b2), .int .i64 (max a3 b3), .int .i64 (max a4 b4), .int .i64 (max a5 b5), .int .i64 (max a6 b6)]) (w : World) :
    Calls Try.prog 16 #[.agg #[.int .i64 a0, .int .i64 a1, .int .i64 a2, .int .i64 a3, .int .i64 a4, .int .i64 a5, .int .i64 a6], .agg #[.int .i64 b0, .int .i64 b1, .int .i64 b2, .int .i64 b3, .int .i64 b4, .int .i64 b5, .int .i64 b6]] w fun e w' => e = .returned v ∧ Below w.heap.size w w' := by
  subst hv
  exact Join_any _ _ _ _ _ _ _ _ _ _ _ _ _ _ w
set_option maxHeartbeats 1000000 in
theorem awake03 (w : World) : Calls Try.prog 19 #[] w fun e w' => e = .returned (.bool true) ∧ Below w.heap.size w w' := by
  go_enter Try.func19, Try.ntmps19
  go_wp2_with (first | (go_at_call 16; (first | (with_reducible refine (calls_ext (Join_is _ _ _ _ _ _ _ _ _ _ _ _ _ _ _ rfl _)).mono ?_) | (with_reducible refine (calls_to_ext (Join_is _ _ _ _ _ _ _ _ _ _ _ _ _ _ _ rfl _)).mono ?_)); rintro e w1 ⟨rfl, X, rfl⟩; have hX := X.size; (try simp only [World.size_alloc] at hX)) | (go_at_call 18; (first | (with_reducible refine (calls_ext (Has_is _ _ _ _ _ _ _ _ _ true (by simp [at7]) _)).mono ?_) | (with_reducible refine (calls_to_ext (Has_is _ _ _ _ _ _ _ _ _ true (by simp [at7]) _)).mono ?_)); rintro e w1 ⟨rfl, X, rfl⟩; have hX := X.size; (try simp only [World.size_alloc] at hX)) | (go_at_call 33; (first | (with_reducible refine (calls_ext (Right_is _ _ _ _ _ _ _ true (by simp) _)).mono ?_) | (with_reducible refine (calls_to_ext (Right_is _ _ _ _ _ _ _ true (by simp) _)).mono ?_)); rintro e w1 ⟨rfl, X, rfl⟩; have hX := X.size; (try simp only [World.size_alloc] at hX)))
  go_ret
  exact ⟨rfl, by (repeat' (first | (with_reducible exact Below.refl _ _) | (with_reducible assumption) | (with_reducible refine Below.setCell ?_ ?_ _) | (with_reducible refine Below.alloc ?_ ?_ _) | (with_reducible refine Below.drew ?_) | (with_reducible refine below_drewN ?_ _) | (with_reducible refine Ext.grown _ ?_ ?_) | (with_reducible exact Nat.le_refl _) | omega | (simp only [World.size_alloc, World.size_setCell, World.size_drew]; omega) | (simp; omega) | (simp; done)))⟩

end Go.Proofs.Ythnmccolfckhdaa
