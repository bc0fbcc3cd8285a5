/- The law DepsWords: what the words of deps say is the document's. -/
import Derived.Test.YthnmccolfckhdaaDepsIs
import Derived.Test.YthnmccolfckhdaaDepsB
import Derived.Test.YthnmccolfckhdaaDepsC
import Derived.Test.YthnmccolfckhdaaDepsD
import Derived.Test.YthnmccolfckhdaaDepsE
namespace Go.Proofs.Ythnmccolfckhdaa
open Go.RowKit
set_option linter.unusedSimpArgs false
set_option linter.unusedVariables false
attribute [local go_sem] eqDeps max2_int max_two min2_int min_two idxDeps Ext.cell Ext.frozen Ext.cell_set szlt1 szlt2 szlt3 szlt4 szlt5 szlt6
attribute [local simp] szlt1 szlt2 szlt3 szlt4 szlt5 szlt6

set_option maxHeartbeats 4000000 in
theorem walkDepsWords (a0 a1 a2 a3 a4 a5 a6 b0 b1 b2 b3 b4 b5 b6 r s : Int) (ha0 : -9223372036854775808 ≤ a0 ∧ a0 ≤ 9223372036854775807) (ha1 : -9223372036854775808 ≤ a1 ∧ a1 ≤ 9223372036854775807) (ha2 : -9223372036854775808 ≤ a2 ∧ a2 ≤ 9223372036854775807) (ha3 : -9223372036854775808 ≤ a3 ∧ a3 ≤ 9223372036854775807) (ha4 : -9223372036854775808 ≤ a4 ∧ a4 ≤ 9223372036854775807) (ha5 : -9223372036854775808 ≤ a5 ∧ a5 ≤ 9223372036854775807) (ha6 : -9223372036854775808 ≤ a6 ∧ a6 ≤ 9223372036854775807) (hb0 : -9223372036854775808 ≤ b0 ∧ b0 ≤ 9223372036854775807) (hb1 : -9223372036854775808 ≤ b1 ∧ b1 ≤ 9223372036854775807) (hb2 : -9223372036854775808 ≤ b2 ∧ b2 ≤ 9223372036854775807) (hb3 : -9223372036854775808 ≤ b3 ∧ b3 ≤ 9223372036854775807) (hb4 : -9223372036854775808 ≤ b4 ∧ b4 ≤ 9223372036854775807) (hb5 : -9223372036854775808 ≤ b5 ∧ b5 ≤ 9223372036854775807) (hb6 : -9223372036854775808 ≤ b6 ∧ b6 ≤ 9223372036854775807) (hr : -9223372036854775808 ≤ r ∧ r ≤ 9223372036854775807) (hs : -9223372036854775808 ≤ s ∧ s ≤ 9223372036854775807) (w : World) :
    Calls Try.prog 10 #[.agg #[.int .i64 a0, .int .i64 a1, .int .i64 a2, .int .i64 a3, .int .i64 a4, .int .i64 a5, .int .i64 a6], .agg #[.int .i64 b0, .int .i64 b1, .int .i64 b2, .int .i64 b3, .int .i64 b4, .int .i64 b5, .int .i64 b6], .agg #[.int .i64 r, .int .i64 s]] w fun e w' => e = .returned (.bool true) ∧ Below w.heap.size w w' := by
  clear ha0 ha1 ha2 ha3 ha4 ha5 ha6 hb0 hb1 hb2 hb3 hb4 hb5 hb6 hr
  have hs2 : s ≤ 9223372036854775807 := hs.2
  obtain ⟨x1, hx1⟩ : ∃ x : Bool, x = decide (0 ≤ a0 ∧ a0 ≤ 1048576 ∧ 0 ≤ a1 ∧ a1 ≤ 1048576 ∧ 0 ≤ a2 ∧ a2 ≤ 1048576 ∧ 0 ≤ a3 ∧ a3 ≤ 1048576 ∧ 0 ≤ a4 ∧ a4 ≤ 1048576 ∧ 0 ≤ a5 ∧ a5 ≤ 1048576 ∧ 0 ≤ a6 ∧ a6 ≤ 1048576) := ⟨_, rfl⟩
  have Hx1 := Lib.hid hx1
  clear hx1
  obtain ⟨x2, hx2⟩ : ∃ x : Bool, x = decide (0 ≤ r ∧ r < 7 ∧ 1 ≤ s ∧ s ≤ at7 a0 a1 a2 a3 a4 a5 a6 r) := ⟨_, rfl⟩
  have Hx2 := Lib.hid hx2
  clear hx2
  obtain ⟨x3, hx3⟩ : ∃ x : Bool, x = decide (b0 ≤ a0 ∧ b1 ≤ a1 ∧ b2 ≤ a2 ∧ b3 ≤ a3 ∧ b4 ≤ a4 ∧ b5 ≤ a5 ∧ b6 ≤ a6) := ⟨_, rfl⟩
  have Hx3 := Lib.hid hx3
  clear hx3
  obtain ⟨u0, hu0⟩ : ∃ x : Int, x = (if r = 0 then max a0 s else a0) := ⟨_, rfl⟩
  obtain ⟨u1, hu1⟩ : ∃ x : Int, x = (if r = 1 then max a1 s else a1) := ⟨_, rfl⟩
  obtain ⟨u2, hu2⟩ : ∃ x : Int, x = (if r = 2 then max a2 s else a2) := ⟨_, rfl⟩
  obtain ⟨u3, hu3⟩ : ∃ x : Int, x = (if r = 3 then max a3 s else a3) := ⟨_, rfl⟩
  obtain ⟨u4, hu4⟩ : ∃ x : Int, x = (if r = 4 then max a4 s else a4) := ⟨_, rfl⟩
  obtain ⟨u5, hu5⟩ : ∃ x : Int, x = (if r = 5 then max a5 s else a5) := ⟨_, rfl⟩
  obtain ⟨u6, hu6⟩ : ∃ x : Int, x = (if r = 6 then max a6 s else a6) := ⟨_, rfl⟩
  have Hu : Hid (u0 = (if r = 0 then max a0 s else a0) ∧ u1 = (if r = 1 then max a1 s else a1) ∧ u2 = (if r = 2 then max a2 s else a2) ∧ u3 = (if r = 3 then max a3 s else a3) ∧ u4 = (if r = 4 then max a4 s else a4) ∧ u5 = (if r = 5 then max a5 s else a5) ∧ u6 = (if r = 6 then max a6 s else a6)) := Lib.hid ⟨hu0, hu1, hu2, hu3, hu4, hu5, hu6⟩
  clear hu0 hu1 hu2 hu3 hu4 hu5 hu6
  obtain ⟨y0, hy0⟩ : ∃ x : Int, x = (if r = 0 ∧ 1 ≤ s then min a0 (s - 1) else a0) := ⟨_, rfl⟩
  obtain ⟨y1, hy1⟩ : ∃ x : Int, x = (if r = 1 ∧ 1 ≤ s then min a1 (s - 1) else a1) := ⟨_, rfl⟩
  obtain ⟨y2, hy2⟩ : ∃ x : Int, x = (if r = 2 ∧ 1 ≤ s then min a2 (s - 1) else a2) := ⟨_, rfl⟩
  obtain ⟨y3, hy3⟩ : ∃ x : Int, x = (if r = 3 ∧ 1 ≤ s then min a3 (s - 1) else a3) := ⟨_, rfl⟩
  obtain ⟨y4, hy4⟩ : ∃ x : Int, x = (if r = 4 ∧ 1 ≤ s then min a4 (s - 1) else a4) := ⟨_, rfl⟩
  obtain ⟨y5, hy5⟩ : ∃ x : Int, x = (if r = 5 ∧ 1 ≤ s then min a5 (s - 1) else a5) := ⟨_, rfl⟩
  obtain ⟨y6, hy6⟩ : ∃ x : Int, x = (if r = 6 ∧ 1 ≤ s then min a6 (s - 1) else a6) := ⟨_, rfl⟩
  have Hy : Hid (y0 = (if r = 0 ∧ 1 ≤ s then min a0 (s - 1) else a0) ∧ y1 = (if r = 1 ∧ 1 ≤ s then min a1 (s - 1) else a1) ∧ y2 = (if r = 2 ∧ 1 ≤ s then min a2 (s - 1) else a2) ∧ y3 = (if r = 3 ∧ 1 ≤ s then min a3 (s - 1) else a3) ∧ y4 = (if r = 4 ∧ 1 ≤ s then min a4 (s - 1) else a4) ∧ y5 = (if r = 5 ∧ 1 ≤ s then min a5 (s - 1) else a5) ∧ y6 = (if r = 6 ∧ 1 ≤ s then min a6 (s - 1) else a6)) := Lib.hid ⟨hy0, hy1, hy2, hy3, hy4, hy5, hy6⟩
  clear hy0 hy1 hy2 hy3 hy4 hy5 hy6
  go_enter Try.func10, Try.ntmps10
  go_wp2
  refine wp_region_ext (by kernel_rfl) (by kernel_rfl) ?_
  repeat (go_big_quiet_step (first | (go_at_call 33; exact calls_ext ((Right_any _ _ _ _ _ _ _ _).mono fun e w2 h => ⟨h.1.trans (ret_bool Hx1.out.symm), h.2⟩)) | (go_at_call 34; exact calls_ext ((rRight_any _ _ _ _ _ _ _ _).mono fun e w2 h => ⟨h.1.trans (ret_bool Hx1.out.symm), h.2⟩)) | (go_at_call 18; exact calls_ext ((Has_any _ _ _ _ _ _ _ _ _ _).mono fun e w2 h => ⟨h.1.trans (ret_bool Hx2.out.symm), h.2⟩)) | (go_at_call 35; exact calls_ext ((rHas_any _ _ _ _ _ _ _ _ _ _).mono fun e w2 h => ⟨h.1.trans (ret_bool Hx2.out.symm), h.2⟩)) | (go_at_call 16; exact calls_ext (Join_any _ _ _ _ _ _ _ _ _ _ _ _ _ _ _)) | (go_at_call 36; exact calls_ext (rJoin_any _ _ _ _ _ _ _ _ _ _ _ _ _ _ _)) | (go_at_call 17; exact calls_ext ((Over_any _ _ _ _ _ _ _ _ _ _ _ _ _ _ _).mono fun e w2 h => ⟨h.1.trans (ret_bool Hx3.out.symm), h.2⟩)) | (go_at_call 37; exact calls_ext ((rOver_any _ _ _ _ _ _ _ _ _ _ _ _ _ _ _).mono fun e w2 h => ⟨h.1.trans (ret_bool Hx3.out.symm), h.2⟩)) | (go_at_call 38; exact calls_ext (With_any _ _ _ _ _ _ _ _ _ (.agg #[.int .i64 u0, .int .i64 u1, .int .i64 u2, .int .i64 u3, .int .i64 u4, .int .i64 u5, .int .i64 u6]) (by obtain ⟨e0, e1, e2, e3, e4, e5, e6⟩ := Hu.out; rw [e0, e1, e2, e3, e4, e5, e6]) _)) | (go_at_call 39; exact calls_ext (rWith_any _ _ _ _ _ _ _ _ _ (.agg #[.int .i64 u0, .int .i64 u1, .int .i64 u2, .int .i64 u3, .int .i64 u4, .int .i64 u5, .int .i64 u6]) (by obtain ⟨e0, e1, e2, e3, e4, e5, e6⟩ := Hu.out; rw [e0, e1, e2, e3, e4, e5, e6]) _)) | (go_at_call 40; exact calls_ext (Without_any _ _ _ _ _ _ _ _ _ hs2 (.agg #[.int .i64 y0, .int .i64 y1, .int .i64 y2, .int .i64 y3, .int .i64 y4, .int .i64 y5, .int .i64 y6]) (by obtain ⟨e0, e1, e2, e3, e4, e5, e6⟩ := Hy.out; rw [e0, e1, e2, e3, e4, e5, e6]) _)) | (go_at_call 41; exact calls_ext (rWithout_any _ _ _ _ _ _ _ _ _ hs2 (.agg #[.int .i64 y0, .int .i64 y1, .int .i64 y2, .int .i64 y3, .int .i64 y4, .int .i64 y5, .int .i64 y6]) (by obtain ⟨e0, e1, e2, e3, e4, e5, e6⟩ := Hy.out; rw [e0, e1, e2, e3, e4, e5, e6]) _)) | (go_at_call 19; exact calls_ext (awake03 _))))
  refine wpQuiet_nil ?_
  rintro w' ⟨Y, rfl⟩
  have hY := Y.size
  (try simp only [World.size_alloc, World.size_setCell] at hY)
  go_wp2
  go_ret
  exact ⟨rfl, by (repeat' (first | (with_reducible exact Below.refl _ _) | (with_reducible assumption) | (with_reducible refine Below.setCell ?_ ?_ _) | (with_reducible refine Below.alloc ?_ ?_ _) | (with_reducible refine Below.drew ?_) | (with_reducible refine below_drewN ?_ _) | (with_reducible refine Ext.grown _ ?_ ?_) | (with_reducible exact Nat.le_refl _) | omega | (simp only [World.size_alloc, World.size_setCell, World.size_drew]; omega) | (simp; omega) | (simp; done)))⟩
end Go.Proofs.Ythnmccolfckhdaa
