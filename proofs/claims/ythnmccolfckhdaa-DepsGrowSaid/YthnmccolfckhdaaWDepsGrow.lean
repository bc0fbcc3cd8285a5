/- The law DepsGrow: what is joined with what it has is as it was; what is put in and has all of others has all of them then, too. -/
import Derived.Test.YthnmccolfckhdaaDepsIs
import Derived.Test.YthnmccolfckhdaaDepsB
namespace Go.Proofs.Ythnmccolfckhdaa
open Go.RowKit
set_option linter.unusedSimpArgs false
set_option linter.unusedVariables false
attribute [local go_sem] eqDeps max2_int max_two min2_int min_two idxDeps Ext.cell Ext.frozen Ext.cell_set szlt1 szlt2 szlt3 szlt4 szlt5 szlt6
attribute [local simp] szlt1 szlt2 szlt3 szlt4 szlt5 szlt6

set_option maxHeartbeats 4000000 in
theorem walkDepsGrow (a0 a1 a2 a3 a4 a5 a6 b0 b1 b2 b3 b4 b5 b6 r s : Int) (ha0 : -9223372036854775808 ≤ a0 ∧ a0 ≤ 9223372036854775807) (ha1 : -9223372036854775808 ≤ a1 ∧ a1 ≤ 9223372036854775807) (ha2 : -9223372036854775808 ≤ a2 ∧ a2 ≤ 9223372036854775807) (ha3 : -9223372036854775808 ≤ a3 ∧ a3 ≤ 9223372036854775807) (ha4 : -9223372036854775808 ≤ a4 ∧ a4 ≤ 9223372036854775807) (ha5 : -9223372036854775808 ≤ a5 ∧ a5 ≤ 9223372036854775807) (ha6 : -9223372036854775808 ≤ a6 ∧ a6 ≤ 9223372036854775807) (hb0 : -9223372036854775808 ≤ b0 ∧ b0 ≤ 9223372036854775807) (hb1 : -9223372036854775808 ≤ b1 ∧ b1 ≤ 9223372036854775807) (hb2 : -9223372036854775808 ≤ b2 ∧ b2 ≤ 9223372036854775807) (hb3 : -9223372036854775808 ≤ b3 ∧ b3 ≤ 9223372036854775807) (hb4 : -9223372036854775808 ≤ b4 ∧ b4 ≤ 9223372036854775807) (hb5 : -9223372036854775808 ≤ b5 ∧ b5 ≤ 9223372036854775807) (hb6 : -9223372036854775808 ≤ b6 ∧ b6 ≤ 9223372036854775807) (hr : -9223372036854775808 ≤ r ∧ r ≤ 9223372036854775807) (hs : -9223372036854775808 ≤ s ∧ s ≤ 9223372036854775807) (w : World) :
    Calls Try.prog 12 #[.agg #[.int .i64 a0, .int .i64 a1, .int .i64 a2, .int .i64 a3, .int .i64 a4, .int .i64 a5, .int .i64 a6], .agg #[.int .i64 b0, .int .i64 b1, .int .i64 b2, .int .i64 b3, .int .i64 b4, .int .i64 b5, .int .i64 b6], .agg #[.int .i64 r, .int .i64 s]] w fun e w' => e = .returned (.bool true) ∧ Below w.heap.size w w' := by
  clear ha0 ha1 ha2 ha3 ha4 ha5 ha6 hb0 hb1 hb2 hb3 hb4 hb5 hb6 hr
  have hs2 : s ≤ 9223372036854775807 := hs.2
  clear hs
  obtain ⟨u0, hu0⟩ : ∃ x : Int, x = (if r = 0 then max a0 s else a0) := ⟨_, rfl⟩
  obtain ⟨u1, hu1⟩ : ∃ x : Int, x = (if r = 1 then max a1 s else a1) := ⟨_, rfl⟩
  obtain ⟨u2, hu2⟩ : ∃ x : Int, x = (if r = 2 then max a2 s else a2) := ⟨_, rfl⟩
  obtain ⟨u3, hu3⟩ : ∃ x : Int, x = (if r = 3 then max a3 s else a3) := ⟨_, rfl⟩
  obtain ⟨u4, hu4⟩ : ∃ x : Int, x = (if r = 4 then max a4 s else a4) := ⟨_, rfl⟩
  obtain ⟨u5, hu5⟩ : ∃ x : Int, x = (if r = 5 then max a5 s else a5) := ⟨_, rfl⟩
  obtain ⟨u6, hu6⟩ : ∃ x : Int, x = (if r = 6 then max a6 s else a6) := ⟨_, rfl⟩
  obtain ⟨y0, hy0⟩ : ∃ x : Int, x = (if r = 0 ∧ 1 ≤ s then min a0 (s - 1) else a0) := ⟨_, rfl⟩
  obtain ⟨y1, hy1⟩ : ∃ x : Int, x = (if r = 1 ∧ 1 ≤ s then min a1 (s - 1) else a1) := ⟨_, rfl⟩
  obtain ⟨y2, hy2⟩ : ∃ x : Int, x = (if r = 2 ∧ 1 ≤ s then min a2 (s - 1) else a2) := ⟨_, rfl⟩
  obtain ⟨y3, hy3⟩ : ∃ x : Int, x = (if r = 3 ∧ 1 ≤ s then min a3 (s - 1) else a3) := ⟨_, rfl⟩
  obtain ⟨y4, hy4⟩ : ∃ x : Int, x = (if r = 4 ∧ 1 ≤ s then min a4 (s - 1) else a4) := ⟨_, rfl⟩
  obtain ⟨y5, hy5⟩ : ∃ x : Int, x = (if r = 5 ∧ 1 ≤ s then min a5 (s - 1) else a5) := ⟨_, rfl⟩
  obtain ⟨y6, hy6⟩ : ∃ x : Int, x = (if r = 6 ∧ 1 ≤ s then min a6 (s - 1) else a6) := ⟨_, rfl⟩
  obtain ⟨z0, hz0⟩ : ∃ x : Int, x = (if r = 0 then max y0 s else y0) := ⟨_, rfl⟩
  obtain ⟨z1, hz1⟩ : ∃ x : Int, x = (if r = 1 then max y1 s else y1) := ⟨_, rfl⟩
  obtain ⟨z2, hz2⟩ : ∃ x : Int, x = (if r = 2 then max y2 s else y2) := ⟨_, rfl⟩
  obtain ⟨z3, hz3⟩ : ∃ x : Int, x = (if r = 3 then max y3 s else y3) := ⟨_, rfl⟩
  obtain ⟨z4, hz4⟩ : ∃ x : Int, x = (if r = 4 then max y4 s else y4) := ⟨_, rfl⟩
  obtain ⟨z5, hz5⟩ : ∃ x : Int, x = (if r = 5 then max y5 s else y5) := ⟨_, rfl⟩
  obtain ⟨z6, hz6⟩ : ∃ x : Int, x = (if r = 6 then max y6 s else y6) := ⟨_, rfl⟩
  have au0 : a0 ≤ u0 := by rw [hu0]; split <;> omega
  have zu0 : z0 ≤ u0 := by rw [hz0, hu0, hy0]; repeat' split
                           all_goals omega
  have au1 : a1 ≤ u1 := by rw [hu1]; split <;> omega
  have zu1 : z1 ≤ u1 := by rw [hz1, hu1, hy1]; repeat' split
                           all_goals omega
  have au2 : a2 ≤ u2 := by rw [hu2]; split <;> omega
  have zu2 : z2 ≤ u2 := by rw [hz2, hu2, hy2]; repeat' split
                           all_goals omega
  have au3 : a3 ≤ u3 := by rw [hu3]; split <;> omega
  have zu3 : z3 ≤ u3 := by rw [hz3, hu3, hy3]; repeat' split
                           all_goals omega
  have au4 : a4 ≤ u4 := by rw [hu4]; split <;> omega
  have zu4 : z4 ≤ u4 := by rw [hz4, hu4, hy4]; repeat' split
                           all_goals omega
  have au5 : a5 ≤ u5 := by rw [hu5]; split <;> omega
  have zu5 : z5 ≤ u5 := by rw [hz5, hu5, hy5]; repeat' split
                           all_goals omega
  have au6 : a6 ≤ u6 := by rw [hu6]; split <;> omega
  have zu6 : z6 ≤ u6 := by rw [hz6, hu6, hy6]; repeat' split
                           all_goals omega
  have Hu : Hid (u0 = (if r = 0 then max a0 s else a0) ∧ u1 = (if r = 1 then max a1 s else a1) ∧ u2 = (if r = 2 then max a2 s else a2) ∧ u3 = (if r = 3 then max a3 s else a3) ∧ u4 = (if r = 4 then max a4 s else a4) ∧ u5 = (if r = 5 then max a5 s else a5) ∧ u6 = (if r = 6 then max a6 s else a6)) := Lib.hid ⟨hu0, hu1, hu2, hu3, hu4, hu5, hu6⟩
  clear hu0 hu1 hu2 hu3 hu4 hu5 hu6
  have Hy : Hid (y0 = (if r = 0 ∧ 1 ≤ s then min a0 (s - 1) else a0) ∧ y1 = (if r = 1 ∧ 1 ≤ s then min a1 (s - 1) else a1) ∧ y2 = (if r = 2 ∧ 1 ≤ s then min a2 (s - 1) else a2) ∧ y3 = (if r = 3 ∧ 1 ≤ s then min a3 (s - 1) else a3) ∧ y4 = (if r = 4 ∧ 1 ≤ s then min a4 (s - 1) else a4) ∧ y5 = (if r = 5 ∧ 1 ≤ s then min a5 (s - 1) else a5) ∧ y6 = (if r = 6 ∧ 1 ≤ s then min a6 (s - 1) else a6)) := Lib.hid ⟨hy0, hy1, hy2, hy3, hy4, hy5, hy6⟩
  clear hy0 hy1 hy2 hy3 hy4 hy5 hy6
  have Hz : Hid (z0 = (if r = 0 then max y0 s else y0) ∧ z1 = (if r = 1 then max y1 s else y1) ∧ z2 = (if r = 2 then max y2 s else y2) ∧ z3 = (if r = 3 then max y3 s else y3) ∧ z4 = (if r = 4 then max y4 s else y4) ∧ z5 = (if r = 5 then max y5 s else y5) ∧ z6 = (if r = 6 then max y6 s else y6)) := Lib.hid ⟨hz0, hz1, hz2, hz3, hz4, hz5, hz6⟩
  clear hz0 hz1 hz2 hz3 hz4 hz5 hz6
  by_cases h1 : b0 ≤ a0 ∧ b1 ≤ a1 ∧ b2 ≤ a2 ∧ b3 ≤ a3 ∧ b4 ≤ a4 ∧ b5 ≤ a5 ∧ b6 ≤ a6
  · have m0 : max a0 b0 = a0 := Int.max_eq_left (by omega)
    have m1 : max a1 b1 = a1 := Int.max_eq_left (by omega)
    have m2 : max a2 b2 = a2 := Int.max_eq_left (by omega)
    have m3 : max a3 b3 = a3 := Int.max_eq_left (by omega)
    have m4 : max a4 b4 = a4 := Int.max_eq_left (by omega)
    have m5 : max a5 b5 = a5 := Int.max_eq_left (by omega)
    have m6 : max a6 b6 = a6 := Int.max_eq_left (by omega)
    have bu0 : b0 ≤ u0 := by omega
    have bu1 : b1 ≤ u1 := by omega
    have bu2 : b2 ≤ u2 := by omega
    have bu3 : b3 ≤ u3 := by omega
    have bu4 : b4 ≤ u4 := by omega
    have bu5 : b5 ≤ u5 := by omega
    have bu6 : b6 ≤ u6 := by omega
    obtain ⟨ab0, ab1, ab2, ab3, ab4, ab5, ab6⟩ := h1
    go_enter Try.func12, Try.ntmps12
    go_wp2
    refine wp_region_ext (by kernel_rfl) (by kernel_rfl) ?_
    repeat (go_big_quiet_step (first | (go_at_call 17; (with_reducible exact calls_ext (Over_is _ _ _ _ _ _ _ _ _ _ _ _ _ _ true (tt (by omega)) _))) | (go_at_call 16; (with_reducible exact calls_ext (Join_is _ _ _ _ _ _ _ _ _ _ _ _ _ _ _ rfl _)))))
    refine wpQuiet_nil ?_
    rintro w' ⟨X, rfl⟩
    have hX := X.size
    (try simp only [World.size_alloc, World.size_setCell] at hX)
    have pX0 : w.heap.size < X.w.heap.size := (by omega)
    have pX1 : w.heap.size + 1 < X.w.heap.size := (by omega)
    have pX2 : w.heap.size + 1 + 1 < X.w.heap.size := (by omega)
    go_wp2
    clear m0 m1 m2 m3 m4 m5 m6
    refine wp_region_ext (by kernel_rfl) (by kernel_rfl) ?_
    repeat (go_big_quiet_step (first | (go_at_call 17; (with_reducible exact calls_ext (Over_is _ _ _ _ _ _ _ _ _ _ _ _ _ _ true (tt (by omega)) _))) | (go_at_call 38; (with_reducible exact calls_ext (With_any a0 a1 a2 a3 a4 a5 a6 _ _ (.agg #[.int .i64 u0, .int .i64 u1, .int .i64 u2, .int .i64 u3, .int .i64 u4, .int .i64 u5, .int .i64 u6]) (by obtain ⟨e0, e1, e2, e3, e4, e5, e6⟩ := Hu.out; rw [e0, e1, e2, e3, e4, e5, e6]) _))) | (go_at_call 38; (with_reducible exact calls_ext (With_any y0 y1 y2 y3 y4 y5 y6 _ _ (.agg #[.int .i64 z0, .int .i64 z1, .int .i64 z2, .int .i64 z3, .int .i64 z4, .int .i64 z5, .int .i64 z6]) (by obtain ⟨e0, e1, e2, e3, e4, e5, e6⟩ := Hz.out; rw [e0, e1, e2, e3, e4, e5, e6]) _))) | (go_at_call 40; (with_reducible exact calls_ext (Without_any _ _ _ _ _ _ _ _ _ hs2 (.agg #[.int .i64 y0, .int .i64 y1, .int .i64 y2, .int .i64 y3, .int .i64 y4, .int .i64 y5, .int .i64 y6]) (by obtain ⟨e0, e1, e2, e3, e4, e5, e6⟩ := Hy.out; rw [e0, e1, e2, e3, e4, e5, e6]) _))) | (go_at_call 19; (with_reducible exact calls_ext (awake03 _)))))
    refine wpQuiet_nil ?_
    rintro w' ⟨Y, rfl⟩
    have hY := Y.size
    (try simp only [World.size_alloc, World.size_setCell] at hY)
    go_wp2
    go_ret
    exact ⟨rfl, by (repeat' (first | (with_reducible exact Below.refl _ _) | (with_reducible assumption) | (with_reducible refine Below.setCell ?_ ?_ _) | (with_reducible refine Below.alloc ?_ ?_ _) | (with_reducible refine Below.drew ?_) | (with_reducible refine below_drewN ?_ _) | (with_reducible refine Ext.grown _ ?_ ?_) | (with_reducible exact Nat.le_refl _) | omega | (simp only [World.size_alloc, World.size_setCell, World.size_drew]; omega) | (simp; omega) | (simp; done)))⟩
  · go_enter Try.func12, Try.ntmps12
    go_wp2
    refine wp_region_ext (by kernel_rfl) (by kernel_rfl) ?_
    repeat (go_big_quiet_step (first | (go_at_call 17; (with_reducible exact calls_ext (Over_is _ _ _ _ _ _ _ _ _ _ _ _ _ _ true (tt (by omega)) _))) | (go_at_call 17; (with_reducible exact calls_ext (Over_is _ _ _ _ _ _ _ _ _ _ _ _ _ _ false (ff (by omega)) _))) | (go_at_call 16; (with_reducible exact calls_ext (Join_is _ _ _ _ _ _ _ _ _ _ _ _ _ _ _ rfl _)))))
    refine wpQuiet_nil ?_
    rintro w' ⟨X, rfl⟩
    have hX := X.size
    (try simp only [World.size_alloc, World.size_setCell] at hX)
    have pX0 : w.heap.size < X.w.heap.size := (by omega)
    have pX1 : w.heap.size + 1 < X.w.heap.size := (by omega)
    have pX2 : w.heap.size + 1 + 1 < X.w.heap.size := (by omega)
    go_wp2
    refine wp_region_ext (by kernel_rfl) (by kernel_rfl) ?_
    repeat (go_big_quiet_step (first | (go_at_call 17; (with_reducible exact calls_ext (Over_is _ _ _ _ _ _ _ _ _ _ _ _ _ _ true (tt (by omega)) _))) | (go_at_call 17; (with_reducible exact calls_ext (Over_is _ _ _ _ _ _ _ _ _ _ _ _ _ _ false (ff (by omega)) _))) | (go_at_call 38; (with_reducible exact calls_ext (With_any a0 a1 a2 a3 a4 a5 a6 _ _ (.agg #[.int .i64 u0, .int .i64 u1, .int .i64 u2, .int .i64 u3, .int .i64 u4, .int .i64 u5, .int .i64 u6]) (by obtain ⟨e0, e1, e2, e3, e4, e5, e6⟩ := Hu.out; rw [e0, e1, e2, e3, e4, e5, e6]) _))) | (go_at_call 38; (with_reducible exact calls_ext (With_any y0 y1 y2 y3 y4 y5 y6 _ _ (.agg #[.int .i64 z0, .int .i64 z1, .int .i64 z2, .int .i64 z3, .int .i64 z4, .int .i64 z5, .int .i64 z6]) (by obtain ⟨e0, e1, e2, e3, e4, e5, e6⟩ := Hz.out; rw [e0, e1, e2, e3, e4, e5, e6]) _))) | (go_at_call 40; (with_reducible exact calls_ext (Without_any _ _ _ _ _ _ _ _ _ hs2 (.agg #[.int .i64 y0, .int .i64 y1, .int .i64 y2, .int .i64 y3, .int .i64 y4, .int .i64 y5, .int .i64 y6]) (by obtain ⟨e0, e1, e2, e3, e4, e5, e6⟩ := Hy.out; rw [e0, e1, e2, e3, e4, e5, e6]) _))) | (go_at_call 19; (with_reducible exact calls_ext (awake03 _)))))
    refine wpQuiet_nil ?_
    rintro w' ⟨Y, rfl⟩
    have hY := Y.size
    (try simp only [World.size_alloc, World.size_setCell] at hY)
    go_wp2
    go_ret
    exact ⟨rfl, by (repeat' (first | (with_reducible exact Below.refl _ _) | (with_reducible assumption) | (with_reducible refine Below.setCell ?_ ?_ _) | (with_reducible refine Below.alloc ?_ ?_ _) | (with_reducible refine Below.drew ?_) | (with_reducible refine below_drewN ?_ _) | (with_reducible refine Ext.grown _ ?_ ?_) | (with_reducible exact Nat.le_refl _) | omega | (simp only [World.size_alloc, World.size_setCell, World.size_drew]; omega) | (simp; omega) | (simp; done)))⟩
end Go.Proofs.Ythnmccolfckhdaa
