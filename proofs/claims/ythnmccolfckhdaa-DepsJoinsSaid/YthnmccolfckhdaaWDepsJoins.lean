/- The law DepsJoins: what is joined has just what one of both has, and hangs on no order. -/
import Derived.Test.YthnmccolfckhdaaDepsIs
namespace Go.Proofs.Ythnmccolfckhdaa
open Go.RowKit
set_option linter.unusedSimpArgs false
set_option linter.unusedVariables false
attribute [local go_sem] eqDeps max2_int max_two min2_int min_two idxDeps Ext.cell Ext.frozen Ext.cell_set szlt1 szlt2 szlt3 szlt4 szlt5 szlt6
attribute [local simp] szlt1 szlt2 szlt3 szlt4 szlt5 szlt6

theorem at7_max (a0 a1 a2 a3 a4 a5 a6 b0 b1 b2 b3 b4 b5 b6 r : Int) : at7 (max a0 b0) (max a1 b1) (max a2 b2) (max a3 b3) (max a4 b4) (max a5 b5) (max a6 b6) r = max (at7 a0 a1 a2 a3 a4 a5 a6 r) (at7 b0 b1 b2 b3 b4 b5 b6 r) := by
  unfold at7
  repeat' split
  all_goals rfl
set_option maxHeartbeats 4000000 in
theorem walkDepsJoins (a0 a1 a2 a3 a4 a5 a6 b0 b1 b2 b3 b4 b5 b6 c0 c1 c2 c3 c4 c5 c6 r s : Int) (ha0 : -9223372036854775808 ≤ a0 ∧ a0 ≤ 9223372036854775807) (ha1 : -9223372036854775808 ≤ a1 ∧ a1 ≤ 9223372036854775807) (ha2 : -9223372036854775808 ≤ a2 ∧ a2 ≤ 9223372036854775807) (ha3 : -9223372036854775808 ≤ a3 ∧ a3 ≤ 9223372036854775807) (ha4 : -9223372036854775808 ≤ a4 ∧ a4 ≤ 9223372036854775807) (ha5 : -9223372036854775808 ≤ a5 ∧ a5 ≤ 9223372036854775807) (ha6 : -9223372036854775808 ≤ a6 ∧ a6 ≤ 9223372036854775807) (hb0 : -9223372036854775808 ≤ b0 ∧ b0 ≤ 9223372036854775807) (hb1 : -9223372036854775808 ≤ b1 ∧ b1 ≤ 9223372036854775807) (hb2 : -9223372036854775808 ≤ b2 ∧ b2 ≤ 9223372036854775807) (hb3 : -9223372036854775808 ≤ b3 ∧ b3 ≤ 9223372036854775807) (hb4 : -9223372036854775808 ≤ b4 ∧ b4 ≤ 9223372036854775807) (hb5 : -9223372036854775808 ≤ b5 ∧ b5 ≤ 9223372036854775807) (hb6 : -9223372036854775808 ≤ b6 ∧ b6 ≤ 9223372036854775807) (hc0 : -9223372036854775808 ≤ c0 ∧ c0 ≤ 9223372036854775807) (hc1 : -9223372036854775808 ≤ c1 ∧ c1 ≤ 9223372036854775807) (hc2 : -9223372036854775808 ≤ c2 ∧ c2 ≤ 9223372036854775807) (hc3 : -9223372036854775808 ≤ c3 ∧ c3 ≤ 9223372036854775807) (hc4 : -9223372036854775808 ≤ c4 ∧ c4 ≤ 9223372036854775807) (hc5 : -9223372036854775808 ≤ c5 ∧ c5 ≤ 9223372036854775807) (hc6 : -9223372036854775808 ≤ c6 ∧ c6 ≤ 9223372036854775807) (hr : -9223372036854775808 ≤ r ∧ r ≤ 9223372036854775807) (hs : -9223372036854775808 ≤ s ∧ s ≤ 9223372036854775807) (w : World) :
    Calls Try.prog 3 #[.agg #[.int .i64 a0, .int .i64 a1, .int .i64 a2, .int .i64 a3, .int .i64 a4, .int .i64 a5, .int .i64 a6], .agg #[.int .i64 b0, .int .i64 b1, .int .i64 b2, .int .i64 b3, .int .i64 b4, .int .i64 b5, .int .i64 b6], .agg #[.int .i64 c0, .int .i64 c1, .int .i64 c2, .int .i64 c3, .int .i64 c4, .int .i64 c5, .int .i64 c6], .agg #[.int .i64 r, .int .i64 s]] w fun e w' => e = .returned (.bool true) ∧ Below w.heap.size w w' := by
  clear ha0 ha1 ha2 ha3 ha4 ha5 ha6 hb0 hb1 hb2 hb3 hb4 hb5 hb6 hc0 hc1 hc2 hc3 hc4 hc5 hc6 hr hs
  have hm := at7_max a0 a1 a2 a3 a4 a5 a6 b0 b1 b2 b3 b4 b5 b6 r

  have m0 : max b0 a0 = max a0 b0 := Int.max_comm ..
  have n0 : max (max a0 b0) c0 = max a0 (max b0 c0) := Int.max_assoc ..
  have o0 : max a0 a0 = a0 := Int.max_self ..
  have m1 : max b1 a1 = max a1 b1 := Int.max_comm ..
  have n1 : max (max a1 b1) c1 = max a1 (max b1 c1) := Int.max_assoc ..
  have o1 : max a1 a1 = a1 := Int.max_self ..
  have m2 : max b2 a2 = max a2 b2 := Int.max_comm ..
  have n2 : max (max a2 b2) c2 = max a2 (max b2 c2) := Int.max_assoc ..
  have o2 : max a2 a2 = a2 := Int.max_self ..
  have m3 : max b3 a3 = max a3 b3 := Int.max_comm ..
  have n3 : max (max a3 b3) c3 = max a3 (max b3 c3) := Int.max_assoc ..
  have o3 : max a3 a3 = a3 := Int.max_self ..
  have m4 : max b4 a4 = max a4 b4 := Int.max_comm ..
  have n4 : max (max a4 b4) c4 = max a4 (max b4 c4) := Int.max_assoc ..
  have o4 : max a4 a4 = a4 := Int.max_self ..
  have m5 : max b5 a5 = max a5 b5 := Int.max_comm ..
  have n5 : max (max a5 b5) c5 = max a5 (max b5 c5) := Int.max_assoc ..
  have o5 : max a5 a5 = a5 := Int.max_self ..
  have m6 : max b6 a6 = max a6 b6 := Int.max_comm ..
  have n6 : max (max a6 b6) c6 = max a6 (max b6 c6) := Int.max_assoc ..
  have o6 : max a6 a6 = a6 := Int.max_self ..
  by_cases ha : 0 ≤ r ∧ r < 7 ∧ 1 ≤ s ∧ s ≤ at7 a0 a1 a2 a3 a4 a5 a6 r
  all_goals by_cases hb : 0 ≤ r ∧ r < 7 ∧ 1 ≤ s ∧ s ≤ at7 b0 b1 b2 b3 b4 b5 b6 r
  all_goals
    go_enter Try.func3, Try.ntmps3
    go_wp2_with ((go_at_call 16; (first | (with_reducible refine (calls_ext (Join_is _ _ _ _ _ _ _ _ _ _ _ _ _ _ _ rfl _)).mono ?_) | (with_reducible refine (calls_to_ext (Join_is _ _ _ _ _ _ _ _ _ _ _ _ _ _ _ rfl _)).mono ?_)); rintro e w1 ⟨rfl, X, rfl⟩; have hX := X.size; (try simp only [World.size_alloc] at hX); have q0 : w.heap.size < X.w.heap.size := (by omega); have q1 : w.heap.size + 1 < X.w.heap.size := (by omega); have q2 : w.heap.size + 1 + 1 < X.w.heap.size := (by omega); have q3 : w.heap.size + 1 + 1 + 1 < X.w.heap.size := (by omega)))
    refine wp_region_ext (by kernel_rfl) (by kernel_rfl) ?_
    repeat (go_big_quiet_step (first | (go_at_call 16; exact calls_ext (Join_is _ _ _ _ _ _ _ _ _ _ _ _ _ _ _ rfl _)) | (go_at_call 17; exact calls_ext (Over_is _ _ _ _ _ _ _ _ _ _ _ _ _ _ true (tt (by refine ⟨?_, ?_, ?_, ?_, ?_, ?_, ?_⟩ <;> first | exact Int.le_max_left _ _ | exact Int.le_max_right _ _)) _))))
    refine wpQuiet_nil ?_
    rintro w' ⟨Y, rfl⟩
    have hY := Y.size
    (try simp only [World.size_alloc, World.size_setCell] at hY)
    have pY0 : X.w.heap.size < Y.w.heap.size := (by omega)
    have pY1 : w.heap.size < Y.w.heap.size := (by omega)
    have pY2 : w.heap.size + 1 < Y.w.heap.size := (by omega)
    have pY3 : w.heap.size + 1 + 1 < Y.w.heap.size := (by omega)
    have pY4 : w.heap.size + 1 + 1 + 1 < Y.w.heap.size := (by omega)
    go_wp2
    clear m0 n0 o0 m1 n1 o1 m2 n2 o2 m3 n3 o3 m4 n4 o4 m5 n5 o5 m6 n6 o6
    refine wp_region_ext (by kernel_rfl) (by kernel_rfl) ?_
    repeat (go_big_quiet_step (first | (go_at_call 18; exact calls_ext (Has_is _ _ _ _ _ _ _ _ _ true (tt (by omega)) _)) | (go_at_call 18; exact calls_ext (Has_is _ _ _ _ _ _ _ _ _ false (ff (by omega)) _)) | (go_at_call 19; exact calls_ext (awake03 _))))
    refine wpQuiet_nil ?_
    rintro w' ⟨Z, rfl⟩
    have hZ := Z.size
    (try simp only [World.size_alloc, World.size_setCell] at hZ)
    go_wp2
    go_ret
    exact ⟨rfl, by (repeat' (first | (with_reducible exact Below.refl _ _) | (with_reducible assumption) | (with_reducible refine Below.setCell ?_ ?_ _) | (with_reducible refine Below.alloc ?_ ?_ _) | (with_reducible refine Below.drew ?_) | (with_reducible refine below_drewN ?_ _) | (with_reducible refine Ext.grown _ ?_ ?_) | (with_reducible exact Nat.le_refl _) | omega | (simp only [World.size_alloc, World.size_setCell, World.size_drew]; omega) | (simp; omega) | (simp; done)))⟩
end Go.Proofs.Ythnmccolfckhdaa
